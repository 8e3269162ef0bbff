/-
  What comes out of a node.
-/
import Derived.Test.YtkffjbijamfnoaaGreatWork
set_option linter.unusedVariables false
set_option linter.unusedSimpArgs false
namespace Go.Proofs.YtkffjbijamfnoaaGreat
open Go.RowKit

/-- What comes of one record. -/
def wk1 (n : Node) (r : Rec) : List Rec := if n.kind = 2 then [{ r with val := n.e.value r }] else if n.kind = 4 then [{ r with key := n.e.value r }] else if n.e.value r = 0 then [] else [r]
theorem wk_all {n : Node} (h : n.kind = 2 ∨ n.kind = 3 ∨ n.kind = 4) (l : List Rec) (mk : Int) : workOf n l mk = (l.flatMap (wk1 n), []) := by
  unfold workOf
  rcases h with h | h | h
  · rw [if_pos h]
    congr 1
    rw [List.map_eq_flatMap]
    exact flatMap_congr' _ (fun r _ => by unfold wk1; rw [if_pos h])
  · rw [if_neg (by omega), if_pos h]
    congr 1
    induction l with
    | nil => rfl
    | cons r l ih =>
      have hw1 : wk1 n r = if n.e.value r = 0 then [] else [r] := by unfold wk1; rw [if_neg (show ¬ n.kind = 2 by omega), if_neg (show ¬ n.kind = 4 by omega)]
      rw [List.flatMap_cons, List.filter_cons, ih, hw1]
      by_cases e : n.e.value r = 0 <;> simp [e]
  · rw [if_neg (by omega), if_neg (by omega), if_pos h]
    congr 1
    rw [List.map_eq_flatMap]
    exact flatMap_congr' _ (fun r _ => by unfold wk1; rw [if_neg (by omega), if_pos h])
theorem wk_take (n : Node) (l : List Rec) (k : Nat) (hk : k < l.length) : (l.take (k + 1)).flatMap (wk1 n) = (l.take k).flatMap (wk1 n) ++ wk1 n l[k] := by
  rw [List.take_succ_eq_append_getElem hk, List.flatMap_append, List.flatMap_singleton]
theorem wk_len (n : Node) (l : List Rec) : (l.flatMap (wk1 n)).length ≤ l.length := by
  have := flatMap_len (f := wk1 n) (k := 1) l (fun r _ => by unfold wk1; (repeat' split) <;> simp)
  omega

theorem Wx.form {Q : Exit → Act → World → Prop} {n : Nat} {F : Fr} {e : Exit} {w0 : World} {m0 m : Nat → Prop} {L : List Blk} {R : World → Prop} (i : Nat) {v : Value} {t : TypeId} {sz k : Nat} {cs : List Value} (hL : L[i]? = some (.row v t sz k cs))
    (h : ∀ A cp, v = .slice A k cp → k ≤ cp → (0 < k → ∃ g, A = some ⟨g, 0, none⟩) → Wx Q n e F (St w0 m0 m L R)) : Wx Q n e F (St w0 m0 m L R) := fun a w ho hw =>
  let ⟨p, h1, h2, h3⟩ := hw.form i hL; h p.1 p.2 h1 h2 h3 a w ho hw
theorem nodePanes_sorted (x : Node) (l : List Rec) : sortP (nodePanes x l) = nodePanes x l := isort_isort lessP_to _
theorem nil_row {α : Type} (dk : Kn α) (w : World) : dk.Row w none [] := ⟨by simp, fun h => absurd rfl h⟩

theorem work_calls (m : Nat → Prop) (x : Node) (A A2 B : Option Addr) (c c2 cb : Nat) (l : List Rec) (mk : Int) (w : World) (hr : Ro m w (fun w => kRec.Row w B l ∧ kExpr.Row w A2 x.e.l)) (hcb : l.length ≤ cb) (hc2 : x.e.l.length ≤ c2) (hs : x.e.count ≤ 1099511627776) (hw0 : x.kind = 7 → winOk x.win = true) (h3 : x.win.kind = 3 → x.kind = 7) (hfan : fanOf x ≤ 64) (hf : FineIn l) :
    Calls Tryz.prog 126 #[.agg #[.int .i64 x.kind, .slice A x.ins.length c, .int .i64 x.par, .int .i64 x.e.op, .int .i64 x.e.n, .slice A2 x.e.l.length c2, .int .i64 x.agg, .int .i64 x.win.kind, .int .i64 x.win.size, .int .i64 x.win.slide], .slice B l.length cb, .int .i64 mk] w (Post m w (fun g : (Option Addr × Nat) × (Option Addr × Nat) => .tuple #[.slice g.1.1 (workOf x l mk).1.length g.1.2, .slice g.2.1 (workOf x l mk).2.length g.2.2]) (fun g => (workOf x l mk).1.length ≤ g.1.2 ∧ (workOf x l mk).2.length ≤ g.2.2) (fun _ => []) (fun g w => kRec.Row w g.1.1 (workOf x l mk).1 ∧ kPane.Row w g.2.1 (workOf x l mk).2)) := by
  refine calls_of_Wc (args := [.agg #[.int .i64 x.kind, .slice A x.ins.length c, .int .i64 x.par, .int .i64 x.e.op, .int .i64 x.e.n, .slice A2 x.e.l.length c2, .int .i64 x.agg, .int .i64 x.win.kind, .int .i64 x.win.size, .int .i64 x.win.slide], .slice B l.length cb, .int .i64 mk]) 73 Tryz.func126 rfl rfl (by simp) ?_
  refine Wc.start hr ?_
  refine Wc.seq ?_
  refine Wc.region ?_
  refine Wl.box rfl rfl rfl (fun b3 => ?_)
  refine Wl.assign rfl rfl ?_
  refine Wl.assign rfl rfl ?_
  refine Wl.nil ?_
  refine Wx.then_n ?_
  refine Wc.seq ?_
  refine Wc.region ?_
  refine Wl.assign rfl rfl ?_
  refine Wl.nil ?_
  refine Wx.then_n ?_
  refine Wc.seq ?_
  refine Wc.seq ?_
  refine Wc.region ?_
  refine Wl.fld ⟨_, 0, none⟩ fl31_0 rfl rfl rfl ?_
  refine Wl.loadb 0 0 t3 rfl rfl rfl rfl ?_
  refine Wl.nil ?_
  refine Wx.then_n ?_
  refine Wc.block ?_
  refine Wc.cutS (G := Bool) (fun g => match g with | bb => [(1, .slice B l.length cb), (2, .int .i64 mk), (3, .pointer (some ⟨b3, 0, none⟩)), (8, .slice none 0 0), (13, .int .i64 x.kind), (14, .bool bb)]) (fun g => match g with | bb => bb = true ↔ (x.kind = 2 ∨ x.kind = 3 ∨ x.kind = 4)) (fun g => match g with | bb => [.box b3 [.int .i64 x.kind, .slice A x.ins.length c, .int .i64 x.par, .int .i64 x.e.op, .int .i64 x.e.n, .slice A2 x.e.l.length c2, .int .i64 x.agg, .int .i64 x.win.kind, .int .i64 x.win.size, .int .i64 x.win.slide] 31]) (fun g => match g with | bb => fun w => kRec.Row w B l ∧ kExpr.Row w A2 x.e.l) ?_ ?_
  ·
    refine Wc.seq ?_
    refine Wc.region ?_
    refine Wl.eql rfl rfl rfl ?_
    refine Wl.assign rfl rfl ?_
    refine Wl.nil ?_
    refine Wx.then_n ?_
    refine Wc.condp rfl (fun h14 => ?_) (fun h14 => ?_)
    ·
      refine Wc.skip ?_
      exact Wx.metS _ ⟨rfl, rfl, rfl, rfl, rfl, rfl, trivial⟩ (by dsimp only; simp only [decide_eq_true_eq]; omega) (fun w hw => hw)
    ·
      refine Wc.seq ?_
      refine Wc.region ?_
      refine Wl.eql rfl rfl rfl ?_
      refine Wl.assign rfl rfl ?_
      refine Wl.nil ?_
      refine Wx.then_n ?_
      refine Wc.condp rfl (fun h14 => ?_) (fun h14 => ?_)
      ·
        refine Wc.skip ?_
        exact Wx.metS _ ⟨rfl, rfl, rfl, rfl, rfl, rfl, trivial⟩ (by dsimp only; simp only [decide_eq_true_eq]; omega) (fun w hw => hw)
      ·
        refine Wc.region ?_
        refine Wl.eql rfl rfl rfl ?_
        refine Wl.assign rfl rfl ?_
        refine Wl.nil ?_
        exact Wx.metS _ ⟨rfl, rfl, rfl, rfl, rfl, rfl, trivial⟩ (by dsimp only; simp only [decide_eq_true_eq]; omega) (fun w hw => hw)
  ·
    rintro bb hbb
    dsimp only
    refine Wc.cond rfl (fun h14 => ?_) (fun h14 => ?_)
    ·
      have hk3 := hbb.1 h14
      have hll := hf.1
      refine Wc.seq ?_
      refine Wc.seq ?_
      refine Wc.region ?_
      refine Wl.move rfl rfl ?_
      refine Wl.len Tryz.underlying59 rfl rfl ?_
      refine Wl.move rfl rfl ?_
      refine Wl.nil ?_
      refine Wx.then_n ?_
      refine Wc.block ?_
      refine Wc.loopS (G := Value × Nat) (fun g => match g with | ⟨v, k⟩ => [(1, .slice B l.length cb), (2, .int .i64 mk), (3, .pointer (some ⟨b3, 0, none⟩)), (8, v), (18, .slice B l.length cb), (19, .int .i64 l.length), (20, .int .i64 k)]) (fun g => match g with | ⟨v, k⟩ => k ≤ l.length) (fun g => match g with | ⟨v, k⟩ => [.box b3 [.int .i64 x.kind, .slice A x.ins.length c, .int .i64 x.par, .int .i64 x.e.op, .int .i64 x.e.n, .slice A2 x.e.l.length c2, .int .i64 x.agg, .int .i64 x.win.kind, .int .i64 x.win.size, .int .i64 x.win.slide] 31, rowOf eRec v 70 3 ((l.take k).flatMap (wk1 x))]) (fun g => match g with | ⟨v, k⟩ => fun w => kRec.Row w B l ∧ kExpr.Row w A2 x.e.l) (fun g => match g with | ⟨v, k⟩ => l.length - k) ⟨.slice none 0 0, 0⟩ ⟨rfl, rfl, rfl, rfl, rfl, rfl, rfl, trivial⟩ (Nat.zero_le _) (fun w hw => hw.nil 70 3) ?_
      rintro ⟨v, k⟩ hk0
      dsimp only
      refine Wc.seq ?_
      refine Wc.region ?_
      refine Wl.lss rfl rfl rfl ?_
      refine Wl.nil ?_
      refine Wx.then_n ?_
      refine Wc.seq ?_
      refine Wc.condp rfl (fun h21 => ?_) (fun h21 => ?_)
      ·
        have hk : k < l.length := by omega
        refine Wc.pure (p := ∃ ad, B = some ad) (fun w hw => hw.addr (fun w h => h.1) (by omega)) ?_
        rintro ⟨ad, rfl⟩
        have hfl := wk_len x (l.take k)
        rw [List.length_take] at hfl
        have hwt := wk_take x l k hk
        refine Wc.skip ?_
        refine Wx.then_n ?_
        refine Wc.seq ?_
        refine Wc.block ?_
        refine Wc.seq ?_
        refine Wc.region ?_
        refine Wl.idx Tryz.underlying59 t70 rfl rfl rfl hk ?_
        refine Wl.loadrw (cs := eRec l[k]) t70 (fun w h => h.1.cells k hk) rfl rfl rfl ?_
        refine Wl.alloc t70 rfl rfl (fun b10 => ?_)
        refine Wl.storew 2 t70 rfl rfl rfl rfl rfl rfl rfl ?_
        refine Wl.nil ?_
        refine Wx.then_n ?_
        refine Wc.seq ?_
        refine Wc.region ?_
        refine Wl.fld ⟨_, 3, none⟩ fl31_3 rfl rfl rfl ?_
        refine Wl.loadbs 0 3 t27 rfl rfl rfl rfl rfl ?_
        refine Wl.loadbw 2 t70 rfl rfl rfl rfl ?_
        refine Wl.callV [.agg #[.int .i64 x.e.op, .int .i64 x.e.n, .slice A2 x.e.l.length c2], .agg #[.int .i64 l[k].key, .int .i64 l[k].time, .int .i64 l[k].val]] Tryz.func145 rfl rfl rfl rfl (fun w hw => value_calls _ x.e A2 c2 l[k] w (hw.read fun w h => h.2) hc2 hs) ?_
        refine Wl.assign rfl rfl ?_
        refine Wl.nil ?_
        refine Wx.then_n ?_
        refine Wc.seq ?_
        refine Wc.block ?_
        refine Wc.seq ?_
        refine Wc.region ?_
        refine Wl.fld ⟨_, 0, none⟩ fl31_0 rfl rfl rfl ?_
        refine Wl.loadb 0 0 t3 rfl rfl rfl rfl ?_
        refine Wl.eql rfl rfl rfl ?_
        refine Wl.assign rfl rfl ?_
        refine Wl.nil ?_
        refine Wx.then_n ?_
        refine Wc.condp rfl (fun h28 => ?_) (fun h28 => ?_)
        ·
          refine Wc.region ?_
          refine Wl.move rfl rfl ?_
          refine Wl.fld ⟨_, 2, none⟩ fl70_2 rfl rfl rfl ?_
          refine Wl.store 2 2 t2 rfl rfl rfl rfl rfl rfl rfl ?_
          refine Wl.nil ?_
          refine Wx.block_n ?_
          refine Wx.then_n ?_
          refine Wc.region ?_
          refine Wl.move rfl rfl ?_
          refine Wl.loadbw 2 t70 rfl rfl rfl rfl ?_
          refine Wl.slice1 Tryz.underlying59 t70 rfl rfl rfl rfl rfl rfl (fun b45 => ?_)
          refine Wl.app1e 1 3 (({ l[k] with val := x.e.value l[k] } : Rec)) Tryz.underlying59 t70 rfl rfl rfl rfl rfl rfl rfl rfl rfl rfl rfl (by omega) (fun v46 => ?_)
          refine Wl.assign rfl rfl ?_
          refine Wl.nil ?_
          refine Wx.block_n ?_
          refine Wx.then_n ?_
          refine Wc.region ?_
          refine Wl.add rfl rfl rfl (by omega) ?_
          refine Wl.move rfl rfl ?_
          refine Wl.nil ?_
          exact Wx.againS ⟨v46, k + 1⟩ (by (try dsimp only); omega) ⟨rfl, rfl, rfl, rfl, rfl, rfl, rfl, trivial⟩ hk (fun w hw => by (try dsimp only); rw [hwt, show wk1 x l[k] = [{ l[k] with val := x.e.value l[k] }] by unfold wk1; rw [if_pos (by assumption)]]; exact hw.take 2)
        ·
          refine Wc.seq ?_
          refine Wc.region ?_
          refine Wl.fld ⟨_, 0, none⟩ fl31_0 rfl rfl rfl ?_
          refine Wl.loadb 0 0 t3 rfl rfl rfl rfl ?_
          refine Wl.eql rfl rfl rfl ?_
          refine Wl.assign rfl rfl ?_
          refine Wl.nil ?_
          refine Wx.then_n ?_
          refine Wc.condp rfl (fun h34 => ?_) (fun h34 => ?_)
          ·
            refine Wc.region ?_
            refine Wl.move rfl rfl ?_
            refine Wl.fld ⟨_, 0, none⟩ fl70_0 rfl rfl rfl ?_
            refine Wl.store 2 0 t2 rfl rfl rfl rfl rfl rfl rfl ?_
            refine Wl.nil ?_
            refine Wx.block_n ?_
            refine Wx.then_n ?_
            refine Wc.region ?_
            refine Wl.move rfl rfl ?_
            refine Wl.loadbw 2 t70 rfl rfl rfl rfl ?_
            refine Wl.slice1 Tryz.underlying59 t70 rfl rfl rfl rfl rfl rfl (fun b45 => ?_)
            refine Wl.app1e 1 3 (({ l[k] with key := x.e.value l[k] } : Rec)) Tryz.underlying59 t70 rfl rfl rfl rfl rfl rfl rfl rfl rfl rfl rfl (by omega) (fun v46 => ?_)
            refine Wl.assign rfl rfl ?_
            refine Wl.nil ?_
            refine Wx.block_n ?_
            refine Wx.then_n ?_
            refine Wc.region ?_
            refine Wl.add rfl rfl rfl (by omega) ?_
            refine Wl.move rfl rfl ?_
            refine Wl.nil ?_
            exact Wx.againS ⟨v46, k + 1⟩ (by (try dsimp only); omega) ⟨rfl, rfl, rfl, rfl, rfl, rfl, rfl, trivial⟩ hk (fun w hw => by (try dsimp only); rw [hwt, show wk1 x l[k] = [{ l[k] with key := x.e.value l[k] }] by unfold wk1; rw [if_neg (by assumption), if_pos (by assumption)]]; exact hw.take 2)
          ·
            refine Wc.seq ?_
            refine Wc.region ?_
            refine Wl.move rfl rfl ?_
            refine Wl.eql rfl rfl rfl ?_
            refine Wl.assign rfl rfl ?_
            refine Wl.nil ?_
            refine Wx.then_n ?_
            refine Wc.condp rfl (fun h40 => ?_) (fun h40 => ?_)
            ·
              refine Wc.exit ?_
              refine Wx.block_o rfl ?_
              refine Wx.then_e ?_
              refine Wx.block_e ?_
              refine Wx.then_n ?_
              refine Wc.region ?_
              refine Wl.add rfl rfl rfl (by omega) ?_
              refine Wl.move rfl rfl ?_
              refine Wl.nil ?_
              exact Wx.againS ⟨v, k + 1⟩ (by (try dsimp only); omega) ⟨rfl, rfl, rfl, rfl, rfl, rfl, rfl, trivial⟩ hk (fun w hw => by (try dsimp only); rw [hwt, show wk1 x l[k] = [] by unfold wk1; rw [if_neg (by assumption), if_neg (by assumption), if_pos (by assumption)]]; rw [List.append_nil]; exact hw.take 2)
            ·
              refine Wc.skip ?_
              refine Wx.block_n ?_
              refine Wx.then_n ?_
              refine Wc.region ?_
              refine Wl.move rfl rfl ?_
              refine Wl.loadbw 2 t70 rfl rfl rfl rfl ?_
              refine Wl.slice1 Tryz.underlying59 t70 rfl rfl rfl rfl rfl rfl (fun b45 => ?_)
              refine Wl.app1e 1 3 (l[k]) Tryz.underlying59 t70 rfl rfl rfl rfl rfl rfl rfl rfl rfl rfl rfl (by omega) (fun v46 => ?_)
              refine Wl.assign rfl rfl ?_
              refine Wl.nil ?_
              refine Wx.block_n ?_
              refine Wx.then_n ?_
              refine Wc.region ?_
              refine Wl.add rfl rfl rfl (by omega) ?_
              refine Wl.move rfl rfl ?_
              refine Wl.nil ?_
              exact Wx.againS ⟨v46, k + 1⟩ (by (try dsimp only); omega) ⟨rfl, rfl, rfl, rfl, rfl, rfl, rfl, trivial⟩ hk (fun w hw => by (try dsimp only); rw [hwt, show wk1 x l[k] = [l[k]] by unfold wk1; rw [if_neg (by assumption), if_neg (by assumption), if_neg (by assumption)]]; exact hw.take 2)
      ·
        obtain rfl : k = l.length := by omega
        rw [List.take_length]
        refine Wc.form 1 rfl (fun A8 c8 e8 hc8 _ => ?_)
        subst e8
        refine Wc.freeze 1 rfl ?_
        refine Wc.exit ?_
        refine Wx.then_e ?_
        refine Wx.then_e ?_
        refine Wx.block_e ?_
        refine Wx.then_n ?_
        refine Wc.seq ?_
        refine Wc.region ?_
        refine Wl.move rfl rfl ?_
        refine Wl.assign rfl rfl ?_
        refine Wl.assign rfl rfl ?_
        refine Wl.nil ?_
        refine Wx.then_n ?_
        refine Wc.ret ?_
        refine Wx.block_r ?_
        refine Wx.then_r ?_
        rw [wk_all hk3 l mk]
        exact Wx.retP2 ((⟨(A8, c8), (none, 0)⟩) : (Option Addr × Nat) × (Option Addr × Nat)) _ _ rfl rfl rfl rfl ⟨hc8, Nat.le_refl _⟩ (fun w hw => (hw.take 0).imp (fun w h => ⟨row_holds h.2, nil_row _ _⟩))
    ·
      have hk3 : ¬ (x.kind = 2 ∨ x.kind = 3 ∨ x.kind = 4) := fun h => by rw [hbb.2 h] at h14; cases h14
      have hll := hf.1
      have hpl := nodePanes_len hw0 l
      have hpl2 : fanOf x * l.length ≤ 64 * 33554432 := Nat.mul_le_mul hfan hll
      have hpi := nodePanes_in hw0 (by decide) hf.2
      refine Wc.seq ?_
      refine Wc.region ?_
      refine Wl.eql rfl rfl rfl ?_
      refine Wl.assign rfl rfl ?_
      refine Wl.nil ?_
      refine Wx.then_n ?_
      refine Wc.condp rfl (fun h49 => ?_) (fun h49 => ?_)
      ·
        refine Wc.seq ?_
        refine Wc.seq ?_
        refine Wc.region ?_
        refine Wl.move rfl rfl ?_
        refine Wl.neq rfl rfl rfl ?_
        refine Wl.nil ?_
        refine Wx.then_n ?_
        refine Wc.condp rfl (fun h52 => ?_) (fun h52 => ?_)
        ·
          refine Wc.seq ?_
          refine Wc.region ?_
          refine Wl.loadbw 0 t31 rfl rfl rfl rfl ?_
          refine Wl.move rfl rfl ?_
          refine Wl.callO [_, _] Tryz.func168 rfl rfl rfl rfl (fun w hw => panes_calls' _ x A A2 B c c2 cb l w (hw.read fun w h => h.1) hcb hw0 h3 hfan hf) (fun v55 => ?_)
          refine Wl.form 1 rfl (fun A55 c55 e55 hc55 _ => ?_)
          subst e55
          refine Wl.freeze 1 rfl ?_
          refine Wl.heap (fun w hw => hw.imp (R' := fun w => kPane.Row w A55 (nodePanes x l)) (fun w h => row_holds h.2)) ?_
          refine Wl.assign rfl rfl ?_
          refine Wl.assign rfl rfl ?_
          refine Wl.nil ?_
          refine Wx.then_n ?_
          refine Wc.ret ?_
          refine Wx.then_r ?_
          refine Wx.block_r ?_
          refine Wx.then_r ?_
          rw [show workOf x l mk = ([], (nodePanes x l)) by unfold workOf; rw [if_neg (by omega), if_neg (by omega), if_neg (by omega), if_pos (by omega), if_pos (by omega)]]
          exact Wx.retP2 ((⟨(none, 0), (A55, c55)⟩) : (Option Addr × Nat) × (Option Addr × Nat)) _ _ rfl rfl rfl rfl ⟨Nat.le_refl _, hc55⟩ (fun w hw => (hw.take 0).imp (fun w h => ⟨nil_row _ _, h⟩))
        ·
          refine Wc.skip ?_
          refine Wx.then_n ?_
          refine Wc.seq ?_
          refine Wc.region ?_
          refine Wl.loadbw 0 t31 rfl rfl rfl rfl ?_
          refine Wl.move rfl rfl ?_
          refine Wl.callO [_, _] Tryz.func168 rfl rfl rfl rfl (fun w hw => panes_calls' _ x A A2 B c c2 cb l w (hw.read fun w h => h.1) hcb hw0 h3 hfan hf) (fun v58 => ?_)
          refine Wl.form 1 rfl (fun A58 c58 e58 hc58 _ => ?_)
          subst e58
          refine Wl.freeze 1 rfl ?_
          refine Wl.heap (fun w hw => hw.imp (R' := fun w => kPane.Row w A58 (nodePanes x l)) (fun w h => row_holds h.2)) ?_
          refine Wl.move rfl rfl ?_
          refine Wl.callS [.slice A58 (nodePanes x l).length c58, .int .i64 mk] Tryz.func169 rfl rfl rfl rfl (fun w hw => winfire_calls _ A58 c58 (nodePanes x l) mk w (hw.read fun w h => h) hc58 (by omega) (fun p hp => by have := hpi p hp; unfold PaneIn at this; omega)) (fun g60 hg60 => ?_)
          rw [nodePanes_sorted]
          refine Wl.extract rfl rfl rfl ?_
          refine Wl.extract rfl rfl rfl ?_
          refine Wl.assign rfl rfl ?_
          refine Wl.assign rfl rfl ?_
          refine Wl.nil ?_
          refine Wx.then_n ?_
          refine Wc.ret ?_
          refine Wx.block_r ?_
          refine Wx.then_r ?_
          obtain ⟨v1, v2⟩ := g60
          dsimp only
          refine Wx.form 1 rfl (fun A1 c1 e1 hc1 _ => ?_)
          subst e1
          refine Wx.form 2 rfl (fun A3 c3 e3 hc3 _ => ?_)
          subst e3
          rw [show workOf x l mk = (fireRecs mk (nodePanes x l), fireLeft mk (nodePanes x l)) by unfold workOf; rw [if_neg (by omega), if_neg (by omega), if_neg (by omega), if_pos (by omega), if_neg (by omega)]]
          exact Wx.retP2 ((⟨(A1, c1), (A3, c3)⟩) : (Option Addr × Nat) × (Option Addr × Nat)) _ _ rfl rfl rfl rfl ⟨hc1, hc3⟩ (fun w hw => (((hw.freeze 1 rfl).freeze 1 rfl).take 0).imp (fun w h => ⟨row_holds h.1.2, row_holds h.2⟩))
      ·
        refine Wc.seq ?_
        refine Wc.region ?_
        refine Wl.eql rfl rfl rfl ?_
        refine Wl.assign rfl rfl ?_
        refine Wl.nil ?_
        refine Wx.then_n ?_
        refine Wc.condp rfl (fun h63 => ?_) (fun h63 => ?_)
        ·
          refine Wc.seq ?_
          refine Wc.region ?_
          refine Wl.loadbw 0 t31 rfl rfl rfl rfl ?_
          refine Wl.move rfl rfl ?_
          refine Wl.callO [_, _] Tryz.func168 rfl rfl rfl rfl (fun w hw => panes_calls' _ x A A2 B c c2 cb l w (hw.read fun w h => h.1) hcb hw0 h3 hfan hf) (fun v67 => ?_)
          refine Wl.form 1 rfl (fun A67 c67 e67 hc67 _ => ?_)
          subst e67
          refine Wl.freeze 1 rfl ?_
          refine Wl.heap (fun w hw => hw.imp (R' := fun w => kPane.Row w A67 (nodePanes x l)) (fun w h => row_holds h.2)) ?_
          refine Wl.move rfl rfl ?_
          refine Wl.callS [.slice A67 (nodePanes x l).length c67, .int .i64 mk] Tryz.func169 rfl rfl rfl rfl (fun w hw => winfire_calls _ A67 c67 (nodePanes x l) mk w (hw.read fun w h => h) hc67 (by omega) (fun p hp => by have := hpi p hp; unfold PaneIn at this; omega)) (fun g69 hg69 => ?_)
          rw [nodePanes_sorted]
          refine Wl.extract rfl rfl rfl ?_
          refine Wl.extract rfl rfl rfl ?_
          refine Wl.assign rfl rfl ?_
          refine Wl.assign rfl rfl ?_
          refine Wl.nil ?_
          refine Wx.then_n ?_
          refine Wc.ret ?_
          refine Wx.block_r ?_
          refine Wx.then_r ?_
          obtain ⟨v1, v2⟩ := g69
          dsimp only
          refine Wx.form 1 rfl (fun A1 c1 e1 hc1 _ => ?_)
          subst e1
          refine Wx.form 2 rfl (fun A3 c3 e3 hc3 _ => ?_)
          subst e3
          rw [show workOf x l mk = (fireRecs mk (nodePanes x l), fireLeft mk (nodePanes x l)) by unfold workOf; rw [if_neg (by omega), if_neg (by omega), if_neg (by omega), if_neg (by omega), if_pos (by omega)]]
          exact Wx.retP2 ((⟨(A1, c1), (A3, c3)⟩) : (Option Addr × Nat) × (Option Addr × Nat)) _ _ rfl rfl rfl rfl ⟨hc1, hc3⟩ (fun w hw => (((hw.freeze 1 rfl).freeze 1 rfl).take 0).imp (fun w h => ⟨row_holds h.1.2, row_holds h.2⟩))
        ·
          refine Wc.skip ?_
          refine Wx.block_n ?_
          refine Wx.then_n ?_
          refine Wc.seq ?_
          refine Wc.region ?_
          refine Wl.move rfl rfl ?_
          refine Wl.assign rfl rfl ?_
          refine Wl.assign rfl rfl ?_
          refine Wl.nil ?_
          refine Wx.then_n ?_
          refine Wc.ret ?_
          rw [show workOf x l mk = (l, []) by unfold workOf; rw [if_neg (by omega), if_neg (by omega), if_neg (by omega), if_neg (by omega), if_neg (by omega)]]
          exact Wx.retP2 ((⟨(B, cb), (none, 0)⟩) : (Option Addr × Nat) × (Option Addr × Nat)) _ _ rfl rfl rfl rfl ⟨hcb, Nat.le_refl _⟩ (fun w hw => (hw.take 0).imp (fun w h => ⟨h.1, nil_row _ _⟩))

end Go.Proofs.YtkffjbijamfnoaaGreat
