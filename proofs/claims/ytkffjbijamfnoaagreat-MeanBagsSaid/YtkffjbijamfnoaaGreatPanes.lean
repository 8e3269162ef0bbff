/-
  The panes of a window's, a reduce's records.
-/
import Derived.Test.YtkffjbijamfnoaaGreatPaneM
set_option linter.unusedVariables false
set_option linter.unusedSimpArgs false
namespace Go.Proofs.YtkffjbijamfnoaaGreat
open Go.RowKit

theorem joinGo_len (agg : Int) : ∀ (E out : List Pane), (E.foldl (joinStep agg) out).length ≤ out.length + E.length
  | [], out => by simp
  | p :: E, out => by
    have h1 := joinGo_len agg E (joinStep agg out p)
    have h2 := joinStep_len agg out p
    rw [List.foldl_cons, List.length_cons]; omega

theorem panes_calls' (m : Nat → Prop) (x : Node) (A A2 B : Option Addr) (c c2 cb : Nat) (l : List Rec) (w : World) (hr : Ro m w (fun w => kRec.Row w B l)) (hcb : l.length ≤ cb) (hw : x.kind = 7 → winOk x.win = true) (h3 : x.win.kind = 3 → x.kind = 7) (hfan : fanOf x ≤ 64) (hf : FineIn l) :
    Calls Tryz.prog 168 #[.agg #[.int .i64 x.kind, .slice A x.ins.length c, .int .i64 x.par, .int .i64 x.e.op, .int .i64 x.e.n, .slice A2 x.e.l.length c2, .int .i64 x.agg, .int .i64 x.win.kind, .int .i64 x.win.size, .int .i64 x.win.slide], .slice B l.length cb] w (PostO m w ePane 166 4 (nodePanes x l)) := by
  refine calls_of_Wc (args := [.agg #[.int .i64 x.kind, .slice A x.ins.length c, .int .i64 x.par, .int .i64 x.e.op, .int .i64 x.e.n, .slice A2 x.e.l.length c2, .int .i64 x.agg, .int .i64 x.win.kind, .int .i64 x.win.size, .int .i64 x.win.slide], .slice B l.length cb]) 109 Tryz.func168 rfl rfl (by simp) ?_
  refine Wc.start hr ?_
  refine Wc.seq ?_
  refine Wc.region ?_
  refine Wl.box rfl rfl rfl (fun b2 => ?_)
  refine Wl.assign rfl rfl ?_
  refine Wl.nil ?_
  refine Wx.then_n ?_
  refine Wc.seq ?_
  refine Wc.region ?_
  refine Wl.mkmap eKS rfl (fun b17 => ?_)
  refine Wl.assign rfl rfl ?_
  refine Wl.nil ?_
  refine Wx.then_n ?_
  refine Wc.seq ?_
  refine Wc.region ?_
  refine Wl.assign rfl rfl ?_
  refine Wl.assign rfl rfl ?_
  refine Wl.nil ?_
  refine Wx.then_n ?_
  refine Wc.seq ?_
  refine Wc.seq ?_
  refine Wc.region ?_
  refine Wl.move rfl rfl ?_
  refine Wl.len Tryz.underlying59 rfl rfl ?_
  refine Wl.move rfl rfl ?_
  refine Wl.nil ?_
  refine Wx.then_n ?_
  refine Wc.block ?_
  refine Wc.loopS (G := Value × Nat) (fun g => match g with | ⟨v, k⟩ => [(2, .pointer (some ⟨b2, 0, none⟩)), (5, .map (some b17)), (7, .slice none 0 0), (6, v), (18, .slice B l.length cb), (19, .int .i64 l.length), (20, .int .i64 k)]) (fun g => match g with | ⟨v, k⟩ => k ≤ l.length) (fun g => match g with | ⟨v, k⟩ => [.box b2 [.int .i64 x.kind, .slice A x.ins.length c, .int .i64 x.par, .int .i64 x.e.op, .int .i64 x.e.n, .slice A2 x.e.l.length c2, .int .i64 x.agg, .int .i64 x.win.kind, .int .i64 x.win.size, .int .i64 x.win.slide] 31, .obj b17 (mObj eKS (mapT x (trips x (l.take k)))), rowOf ePane v 166 4 (sesT x (trips x (l.take k)))]) (fun g => match g with | ⟨v, k⟩ => fun w => kRec.Row w B l) (fun g => match g with | ⟨v, k⟩ => l.length - k) ⟨.slice none 0 0, 0⟩ ⟨rfl, rfl, rfl, rfl, rfl, rfl, rfl, trivial⟩ (Nat.zero_le _) (fun w hw => by have := hw.nil 166 4; simp only [List.take_zero]; rw [show mapT x (trips x []) = [] by unfold mapT; split <;> rfl, show sesT x (trips x []) = [] by unfold sesT; split <;> rfl]; exact this) ?_
  rintro ⟨v, k⟩ hk0
  dsimp only
  refine Wc.seq ?_
  refine Wc.region ?_
  refine Wl.lss rfl rfl rfl ?_
  refine Wl.nil ?_
  refine Wx.then_n ?_
  refine Wc.seq ?_
  refine Wc.condp rfl (fun h21 => ?_) (fun h21 => ?_)
  ·
    have hk : k < l.length := by omega
    refine Wc.pure (p := ∃ ad, B = some ad) (fun w hw => hw.addr (fun w h => h) (by omega)) ?_
    rintro ⟨ad, rfl⟩
    have htt := trips_take x l k hk
    have hti := hf.2 l[k] (List.getElem_mem hk)
    have hsl := nodeSpans_len hw l[k].time
    have htl := trips_len hw (l.take k)
    have hll := hf.1
    have hfk : fanOf x * (l.take k).length ≤ 64 * 33554432 := Nat.mul_le_mul hfan (by rw [List.length_take]; omega)
    refine Wc.skip ?_
    refine Wx.then_n ?_
    refine Wc.seq ?_
    refine Wc.block ?_
    refine Wc.seq ?_
    refine Wc.region ?_
    refine Wl.idx Tryz.underlying59 t70 rfl rfl rfl hk ?_
    refine Wl.loadrw (cs := eRec l[k]) t70 (fun w h => h.cells k hk) rfl rfl rfl ?_
    refine Wl.alloc t70 rfl rfl (fun b9 => ?_)
    refine Wl.storew 3 t70 rfl rfl rfl rfl rfl rfl rfl ?_
    refine Wl.nil ?_
    refine Wx.then_n ?_
    refine Wc.seq ?_
    refine Wc.region ?_
    refine Wl.build (parts := _) [(0, _), (1, _)] [.int .i64 (-9223372036854775808), .int .i64 2199023255553] rfl rfl (fun w => run_build w _ _ _ (by kernel_rfl)) ?_
    refine Wl.slice1 Tryz.underlying214 t164 rfl rfl rfl rfl rfl rfl (fun b25 => ?_)
    refine Wl.assign rfl rfl ?_
    refine Wl.nil ?_
    refine Wx.then_n ?_
    refine Wc.cutS (G := Option Addr × Nat) (fun g => match g with | ⟨gA, gc⟩ => [(2, .pointer (some ⟨b2, 0, none⟩)), (5, .map (some b17)), (7, .slice none 0 0), (6, v), (9, .pointer (some ⟨b9, 0, none⟩)), (18, .slice (some ad) l.length cb), (19, .int .i64 l.length), (20, .int .i64 k), (10, .slice gA (nodeSpans x l[k].time).length gc)]) (fun g => match g with | ⟨gA, gc⟩ => (nodeSpans x l[k].time).length ≤ gc) (fun g => match g with | ⟨gA, gc⟩ => [.box b2 [.int .i64 x.kind, .slice A x.ins.length c, .int .i64 x.par, .int .i64 x.e.op, .int .i64 x.e.n, .slice A2 x.e.l.length c2, .int .i64 x.agg, .int .i64 x.win.kind, .int .i64 x.win.size, .int .i64 x.win.slide] 31, .obj b17 (mObj eKS (mapT x (trips x (l.take k)))), rowOf ePane v 166 4 (sesT x (trips x (l.take k))), .box b9 (eRec l[k]) 70]) (fun g => match g with | ⟨gA, gc⟩ => fun w => kRec.Row w (some ad) l ∧ kSpan.Row w gA (nodeSpans x l[k].time)) ?_ ?_
    ·
      refine Wc.seq ?_
      refine Wc.region ?_
      refine Wl.fld ⟨_, 0, none⟩ fl31_0 rfl rfl rfl ?_
      refine Wl.loadb 0 0 t3 rfl rfl rfl rfl ?_
      refine Wl.eql rfl rfl rfl ?_
      refine Wl.nil ?_
      refine Wx.then_n ?_
      refine Wc.condp rfl (fun h28 => ?_) (fun h28 => ?_)
      ·
        refine Wc.region ?_
        refine Wl.fld ⟨_, 7, none⟩ fl31_5 rfl rfl rfl ?_
        refine Wl.loadbs 0 7 t29 rfl rfl rfl rfl rfl ?_
        refine Wl.fld ⟨_, 1, none⟩ fl70_1 rfl rfl rfl ?_
        refine Wl.loadb 3 1 t2 rfl rfl rfl rfl ?_
        refine Wl.callO [.agg #[.int .i64 x.win.kind, .int .i64 x.win.size, .int .i64 x.win.slide], .int .i64 l[k].time] Tryz.func201 rfl rfl rfl rfl (fun w hw => winspans_calls _ x.win l[k].time w (hw.read fun _ _ => trivial) (‹x.kind = 7 → winOk x.win = true› h28) (by omega) (by omega)) (fun v33 => ?_)
        refine Wl.form 5 rfl (fun A33 c33 e33 hc33 _ => ?_)
        subst e33
        refine Wl.freeze 5 rfl ?_
        refine Wl.assign rfl rfl ?_
        refine Wl.nil ?_
        have hns : nodeSpans x l[k].time = spansOf x.win l[k].time := by unfold nodeSpans; rw [if_pos h28]
        exact Wx.metS ⟨A33, c33⟩ ⟨rfl, rfl, rfl, rfl, rfl, rfl, rfl, rfl, congrArg (fun z => some (Value.slice A33 z c33)) (by (try dsimp only); rw [hns]), trivial⟩ (by (try dsimp only); rw [hns]; exact hc33) (fun w hw => (hw.take 4).imp (fun w h => ⟨h.1, by (try dsimp only); rw [hns]; exact row_holds h.2⟩))
      ·
        refine Wc.skip ?_
        have hns : nodeSpans x l[k].time = [whole] := by unfold nodeSpans; rw [if_neg h28]
        exact Wx.metS ⟨some ⟨b25, 0, none⟩, 1⟩ ⟨rfl, rfl, rfl, rfl, rfl, rfl, rfl, rfl, congrArg (fun z => some (Value.slice (some ⟨b25, 0, none⟩) z 1)) (by (try dsimp only); rw [hns]; rfl), trivial⟩ (by (try dsimp only); rw [hns]; exact Nat.le_refl _) (fun w hw => (((hw.box_row (enc := eSpan) (sz := 2) 4 whole rfl rfl rfl).freeze 4 rfl)).imp (fun w h => ⟨h.1, by (try dsimp only); rw [hns]; exact row_holds h.2⟩))
    ·
      rintro ⟨gA, gc⟩ hgc
      dsimp only
      refine Wc.seq ?_
      refine Wc.region ?_
      refine Wl.move rfl rfl ?_
      refine Wl.len Tryz.underlying214 rfl rfl ?_
      refine Wl.move rfl rfl ?_
      refine Wl.nil ?_
      refine Wx.then_n ?_
      refine Wc.block ?_
      refine Wc.loopS (G := Value × Nat) (fun g => match g with | ⟨v, j⟩ => [(2, .pointer (some ⟨b2, 0, none⟩)), (5, .map (some b17)), (7, .slice none 0 0), (6, v), (9, .pointer (some ⟨b9, 0, none⟩)), (18, .slice (some ad) l.length cb), (19, .int .i64 l.length), (20, .int .i64 k), (34, .slice gA (nodeSpans x l[k].time).length gc), (35, .int .i64 (nodeSpans x l[k].time).length), (36, .int .i64 j)]) (fun g => match g with | ⟨v, j⟩ => j ≤ (nodeSpans x l[k].time).length) (fun g => match g with | ⟨v, j⟩ => [.box b2 [.int .i64 x.kind, .slice A x.ins.length c, .int .i64 x.par, .int .i64 x.e.op, .int .i64 x.e.n, .slice A2 x.e.l.length c2, .int .i64 x.agg, .int .i64 x.win.kind, .int .i64 x.win.size, .int .i64 x.win.slide] 31, .obj b17 (mObj eKS (mapT x (trips x (l.take k) ++ ((nodeSpans x l[k].time).take j).map (fun s => (l[k].key, s, l[k].val))))), rowOf ePane v 166 4 (sesT x (trips x (l.take k) ++ ((nodeSpans x l[k].time).take j).map (fun s => (l[k].key, s, l[k].val)))), .box b9 (eRec l[k]) 70]) (fun g => match g with | ⟨v, j⟩ => fun w => kRec.Row w (some ad) l ∧ kSpan.Row w gA (nodeSpans x l[k].time)) (fun g => match g with | ⟨v, j⟩ => (nodeSpans x l[k].time).length - j) ⟨v, 0⟩ ⟨rfl, rfl, rfl, rfl, rfl, rfl, rfl, rfl, rfl, rfl, rfl, trivial⟩ (Nat.zero_le _) (fun w hw => by simp only [List.take_zero, List.map_nil, List.append_nil]; exact hw) ?_
      rintro ⟨v, j⟩ hj0
      dsimp only
      refine Wc.seq ?_
      refine Wc.region ?_
      refine Wl.lss rfl rfl rfl ?_
      refine Wl.nil ?_
      refine Wx.then_n ?_
      refine Wc.seq ?_
      refine Wc.condp rfl (fun h37 => ?_) (fun h37 => ?_)
      ·
        have hj : j < (nodeSpans x l[k].time).length := by omega
        refine Wc.pure (p := ∃ ad, gA = some ad) (fun w hw => hw.addr (fun w h => h.2) (by omega)) ?_
        rintro ⟨ad2, rfl⟩
        generalize hs : (nodeSpans x l[k].time)[j] = s
        have htj : ((nodeSpans x l[k].time).take (j + 1)).map (fun s => (l[k].key, s, l[k].val)) = ((nodeSpans x l[k].time).take j).map (fun s => (l[k].key, s, l[k].val)) ++ [(l[k].key, s, l[k].val)] := by rw [List.take_succ_eq_append_getElem hj, List.map_append, hs]; rfl
        generalize hT : trips x (l.take k) ++ ((nodeSpans x l[k].time).take j).map (fun s => (l[k].key, s, l[k].val)) = T
        have hTn : trips x (l.take k) ++ ((nodeSpans x l[k].time).take (j + 1)).map (fun s => (l[k].key, s, l[k].val)) = T ++ [(l[k].key, s, l[k].val)] := by rw [htj, ← List.append_assoc, hT]
        have hTl : T.length ≤ 4294967296 := by rw [← hT, List.length_append, List.length_map, List.length_take]; omega
        refine Wc.skip ?_
        refine Wx.then_n ?_
        refine Wc.seq ?_
        refine Wc.block ?_
        refine Wc.seq ?_
        refine Wc.region ?_
        refine Wl.idx Tryz.underlying214 t164 rfl rfl rfl hj ?_
        refine Wl.loadrw (cs := eSpan s) t164 (fun w h => hs ▸ h.2.cells j hj) rfl rfl rfl ?_
        refine Wl.alloc t164 rfl rfl (fun b12 => ?_)
        refine Wl.storew 4 t164 rfl rfl rfl rfl rfl rfl rfl ?_
        refine Wl.nil ?_
        refine Wx.then_n ?_
        refine Wc.seq ?_
        refine Wc.seq ?_
        refine Wc.region ?_
        refine Wl.fld ⟨_, 7, none⟩ fl31_5 rfl rfl rfl ?_
        refine Wl.fld ⟨_, 7, none⟩ fl29_0 rfl rfl rfl ?_
        refine Wl.loadb 0 7 t3 rfl rfl rfl rfl ?_
        refine Wl.eql rfl rfl rfl ?_
        refine Wl.nil ?_
        refine Wx.then_n ?_
        refine Wc.condp rfl (fun h43 => ?_) (fun h43 => ?_)
        ·
          refine Wc.seq ?_
          refine Wc.drawp [0] [1, 2, 3, 4, 5, 6, 7, 8, 9, 10, 11, 12] 13 mixed (by kernel_rfl) (fun w hw => hw.drew) ?_
          refine Wl.move rfl rfl ?_
          refine Wl.nilp ?_
          refine Wl.fld ⟨_, 0, none⟩ fl70_0 rfl rfl rfl ?_
          refine Wl.loadb 3 0 t2 rfl rfl rfl rfl ?_
          refine Wl.loadbw 4 t164 rfl rfl rfl rfl ?_
          refine Wl.fld ⟨_, 6, none⟩ fl31_4 rfl rfl rfl ?_
          refine Wl.loadb 0 6 t3 rfl rfl rfl rfl ?_
          refine Wl.fld ⟨_, 6, none⟩ fl31_4 rfl rfl rfl ?_
          refine Wl.loadb 0 6 t3 rfl rfl rfl rfl ?_
          refine Wl.callV [_] Tryz.func203 rfl rfl rfl rfl (fun w hw => aggzero_calls _ x.agg w (hw.read fun _ _ => trivial)) ?_
          refine Wl.fld ⟨_, 2, none⟩ fl70_2 rfl rfl rfl ?_
          refine Wl.loadb 3 2 t2 rfl rfl rfl rfl ?_
          refine Wl.callV [_, _, _] Tryz.func202 rfl rfl rfl rfl (fun w hw => aggadd_calls _ x.agg _ _ w (hw.read fun _ _ => trivial)) ?_
          refine Wl.build (parts := _) [(0, _), (1, _), (2, _)] [.int .i64 l[k].key, .int .i64 s.frm, .int .i64 s.to, .int .i64 (aggAdd x.agg (aggZero x.agg) l[k].val)] rfl rfl (fun w => run_build w _ _ _ (by kernel_rfl)) ?_
          refine Wl.nilt ?_
          refine Wl.slice1 Tryz.underlying53 t166 rfl rfl rfl rfl rfl rfl (fun b57 => ?_)
          refine Wl.app1e 2 5 ((entry x.agg l[k].key s l[k].val)) Tryz.underlying53 t166 rfl rfl rfl rfl rfl rfl rfl rfl rfl rfl rfl (by unfold sesT; rw [if_pos h43, List.length_map]; omega) (fun v58 => ?_)
          refine Wl.assign rfl rfl ?_
          refine Wl.nil ?_
          refine Wx.nopanic ?_
          refine Wx.then_n ?_
          refine Wc.exit ?_
          refine Wx.then_e ?_
          refine Wx.block_e ?_
          refine Wx.then_n ?_
          refine Wc.region ?_
          refine Wl.add rfl rfl rfl (by omega) ?_
          refine Wl.move rfl rfl ?_
          refine Wl.nil ?_
          exact Wx.againS ⟨v58, j + 1⟩ (by (try dsimp only); omega) ⟨rfl, rfl, rfl, rfl, rfl, rfl, rfl, rfl, rfl, rfl, rfl, trivial⟩ hj (fun w hw => by dsimp only; rw [hTn]; rw [show mapT x (T ++ [(l[k].key, s, l[k].val)]) = mapT x T by unfold mapT; rw [if_pos h43, if_pos h43], show sesT x (T ++ [(l[k].key, s, l[k].val)]) = sesT x T ++ [entry x.agg l[k].key s l[k].val] by unfold sesT; rw [if_pos h43, if_pos h43, List.map_append]; rfl]; exact (hw.take 4).imp fun w h => h)
        ·
          refine Wc.skip ?_
          refine Wx.then_n ?_
          refine Wc.seq ?_
          refine Wc.region ?_
          refine Wl.move rfl rfl ?_
          refine Wl.fld ⟨_, 0, none⟩ fl70_0 rfl rfl rfl ?_
          refine Wl.loadb 3 0 t2 rfl rfl rfl rfl ?_
          refine Wl.loadbw 4 t164 rfl rfl rfl rfl ?_
          refine Wl.build (parts := _) [(0, _), (1, _)] [.int .i64 l[k].key, .int .i64 s.frm, .int .i64 s.to] rfl rfl (fun w => run_build w _ _ _ (by kernel_rfl)) ?_
          refine Wl.look (ok := true) (M := mapT x T) 1 key286 Tryz.underlying284 t2 (l[k].key, s) rfl rfl rfl rfl ?_
          rw [if_pos rfl]
          refine Wl.move rfl rfl ?_
          refine Wl.extract rfl rfl rfl ?_
          refine Wl.extract rfl rfl rfl ?_
          refine Wl.assign rfl rfl ?_
          refine Wl.assign rfl rfl ?_
          refine Wl.nil ?_
          refine Wx.then_n ?_
          refine Wc.cutS (G := Int) (fun g => match g with | ga => [(2, .pointer (some ⟨b2, 0, none⟩)), (5, .map (some b17)), (7, .slice none 0 0), (6, v), (9, .pointer (some ⟨b9, 0, none⟩)), (18, .slice (some ad) l.length cb), (19, .int .i64 l.length), (20, .int .i64 k), (12, .pointer (some ⟨b12, 0, none⟩)), (34, .slice (some ad2) (nodeSpans x l[k].time).length gc), (35, .int .i64 (nodeSpans x l[k].time).length), (36, .int .i64 j), (13, .int .i64 ga)]) (fun g => match g with | ga => ga = accGet x.agg (l[k].key, s) (mapT x T)) (fun g => match g with | ga => [.box b2 [.int .i64 x.kind, .slice A x.ins.length c, .int .i64 x.par, .int .i64 x.e.op, .int .i64 x.e.n, .slice A2 x.e.l.length c2, .int .i64 x.agg, .int .i64 x.win.kind, .int .i64 x.win.size, .int .i64 x.win.slide] 31, .obj b17 (mObj eKS (mapT x T)), rowOf ePane v 166 4 (sesT x T), .box b9 (eRec l[k]) 70, .box b12 (eSpan s) 164]) (fun g => match g with | ga => fun w => kRec.Row w (some ad) l ∧ kSpan.Row w (some ad2) (nodeSpans x l[k].time)) ?_ ?_
          ·
            refine Wc.seq ?_
            refine Wc.region ?_
            refine Wl.move rfl rfl ?_
            refine Wl.not rfl rfl ?_
            refine Wl.nil ?_
            refine Wx.then_n ?_
            refine Wc.cond rfl (fun h69 => ?_) (fun h69 => ?_)
            ·
              refine Wc.region ?_
              refine Wl.fld ⟨_, 6, none⟩ fl31_4 rfl rfl rfl ?_
              refine Wl.loadb 0 6 t3 rfl rfl rfl rfl ?_
              refine Wl.callV [_] Tryz.func203 rfl rfl rfl rfl (fun w hw => aggzero_calls _ x.agg w (hw.read fun _ _ => trivial)) ?_
              refine Wl.assign rfl rfl ?_
              refine Wl.nil ?_
              exact Wx.metS _ ⟨rfl, rfl, rfl, rfl, rfl, rfl, rfl, rfl, rfl, rfl, rfl, rfl, rfl, trivial⟩ (by unfold accGet; rw [if_neg (by simpa using h69)]) (fun w hw => hw)
            ·
              refine Wc.skip ?_
              exact Wx.metS _ ⟨rfl, rfl, rfl, rfl, rfl, rfl, rfl, rfl, rfl, rfl, rfl, rfl, rfl, trivial⟩ (by unfold accGet; rw [if_pos (by simpa using h69)]) (fun w hw => hw)
          ·
            rintro ga hga
            dsimp only
            refine Wc.drawt 11 mixed (by kernel_rfl) (fun w hw => hw.drew) ?_
            refine Wl.move rfl rfl ?_
            refine Wl.fld ⟨_, 0, none⟩ fl70_0 rfl rfl rfl ?_
            refine Wl.loadb 3 0 t2 rfl rfl rfl rfl ?_
            refine Wl.loadbw 4 t164 rfl rfl rfl rfl ?_
            refine Wl.build (parts := _) [(0, _), (1, _)] [.int .i64 l[k].key, .int .i64 s.frm, .int .i64 s.to] rfl rfl (fun w => run_build w _ _ _ (by kernel_rfl)) ?_
            refine Wl.fld ⟨_, 6, none⟩ fl31_4 rfl rfl rfl ?_
            refine Wl.loadb 0 6 t3 rfl rfl rfl rfl ?_
            refine Wl.move rfl rfl ?_
            refine Wl.fld ⟨_, 2, none⟩ fl70_2 rfl rfl rfl ?_
            refine Wl.loadb 3 2 t2 rfl rfl rfl rfl ?_
            refine Wl.callV [_, _, _] Tryz.func202 rfl rfl rfl rfl (fun w hw => aggadd_calls _ x.agg _ _ w (hw.read fun _ _ => trivial)) ?_
            refine Wl.nilt ?_
            refine Wl.mapUpdate (M := mapT x T) 1 key286 Tryz.underlying284 (l[k].key, s) rfl rfl rfl rfl ?_
            refine Wl.nil ?_
            refine Wx.block_n ?_
            refine Wx.then_n ?_
            refine Wc.region ?_
            refine Wl.add rfl rfl rfl (by omega) ?_
            refine Wl.move rfl rfl ?_
            refine Wl.nil ?_
            exact Wx.againS ⟨v, j + 1⟩ (by (try dsimp only); omega) ⟨rfl, rfl, rfl, rfl, rfl, rfl, rfl, rfl, rfl, rfl, rfl, trivial⟩ hj (fun w hw => by dsimp only; rw [hTn]; rw [show mapT x (T ++ [(l[k].key, s, l[k].val)]) = mPut (l[k].key, s) (aggAdd x.agg ga l[k].val) (mapT x T) by unfold mapT at hga ⊢; rw [if_neg h43] at hga ⊢; rw [if_neg h43, accM_snoc, ← hga], show sesT x (T ++ [(l[k].key, s, l[k].val)]) = sesT x T by unfold sesT; rw [if_neg h43, if_neg h43]]; exact hw.take 4)
      ·
        refine Wc.exit ?_
        refine Wx.then_e ?_
        refine Wx.then_e ?_
        refine Wx.block_e ?_
        refine Wx.block_n ?_
        refine Wx.then_n ?_
        refine Wc.region ?_
        refine Wl.add rfl rfl rfl (by omega) ?_
        refine Wl.move rfl rfl ?_
        refine Wl.nil ?_
        obtain rfl : j = (nodeSpans x l[k].time).length := by omega
        exact Wx.againS ⟨v, k + 1⟩ (by (try dsimp only); omega) ⟨rfl, rfl, rfl, rfl, rfl, rfl, rfl, trivial⟩ hk (fun w hw => by dsimp only; rw [htt]; rw [List.take_length] at hw; exact (hw.take 3).imp fun w h => h.1)
  ·
    obtain rfl : k = l.length := by omega
    rw [List.take_length]
    generalize hM : mapT x (trips x l) = M
    have htl := trips_len hw l
    have hll := hf.1
    have hfk : fanOf x * l.length ≤ 64 * 33554432 := Nat.mul_le_mul hfan hll
    have hMl : M.length ≤ 2147483648 := by rw [← hM]; unfold mapT; split; exact Nat.zero_le _; have := accM_len (agg := x.agg) (trips x l) []; simp only [List.length_nil] at this; omega
    have hSl : (sesT x (trips x l)).length ≤ 2147483648 := by unfold sesT; split; (rw [List.length_map]; omega); exact Nat.zero_le _
    refine Wc.exit ?_
    refine Wx.then_e ?_
    refine Wx.then_e ?_
    refine Wx.block_e ?_
    refine Wx.then_n ?_
    refine Wc.seq ?_
    refine Wc.seq ?_
    refine Wc.region ?_
    refine Wl.move rfl rfl ?_
    refine Wl.rng (M := M) (ek := eKS) Tryz.underlying284 rfl rfl (fun w hw => hw.get (i := 1) rfl) (fun b87 => ?_)
    refine Wl.nil ?_
    refine Wx.then_n ?_
    refine Wc.block ?_
    refine Wc.loopS (G := Value × List Nat) (fun g => match g with | ⟨u, seen⟩ => [(2, .pointer (some ⟨b2, 0, none⟩)), (6, v), (7, u), (87, .pointer (some ⟨b87, 0, none⟩))]) (fun g => match g with | ⟨u, seen⟩ => seen.Nodup ∧ ∀ i ∈ seen, i < M.length) (fun g => match g with | ⟨u, seen⟩ => [.box b2 [.int .i64 x.kind, .slice A x.ins.length c, .int .i64 x.par, .int .i64 x.e.op, .int .i64 x.e.n, .slice A2 x.e.l.length c2, .int .i64 x.agg, .int .i64 x.win.kind, .int .i64 x.win.size, .int .i64 x.win.slide] 31, .obj b17 (mObj eKS M), rowOf ePane v 166 4 (sesT x (trips x l)), .obj b87 (itObj b17 M.length seen), rowOf ePane u 166 4 (seen.map (fun i => (M.map paneOf).getD i default))]) (fun g => match g with | ⟨u, seen⟩ => fun w => kRec.Row w B l) (fun g => match g with | ⟨u, seen⟩ => M.length - seen.length) ⟨.slice none 0 0, []⟩ ⟨rfl, rfl, rfl, rfl, trivial⟩ ⟨List.nodup_nil, by simp⟩ (fun w hw => hw.nil 166 4) ?_
    rintro ⟨u, seen⟩ ⟨hs1, hs2⟩
    dsimp only
    refine Wc.seq ?_
    refine Wc.region ?_
    refine Wl.next (M := M) (ek := eKS) 3 rfl rfl rfl (fun w hw => hw.get (i := 1) rfl) (fun g hg => ?_)
    refine Wl.extract rfl (show (nextVals eKS M g)[0]? = some (.bool g.isSome) by cases g <;> rfl) rfl ?_
    refine Wl.nil ?_
    refine Wx.then_n ?_
    refine Wc.seq ?_
    refine Wc.cond rfl (fun h89 => ?_) (fun h89 => ?_)
    ·
      obtain ⟨i, rfl⟩ := Option.isSome_iff_exists.1 h89
      obtain ⟨hi, hns⟩ := hg
      have hl1 := nodup_lt M.length (seen ++ [i]) (by rw [List.nodup_append]; exact ⟨hs1, by simp, fun a ha b hb e => by rw [List.mem_singleton.1 hb] at e; exact hns (e ▸ ha)⟩) (fun y hy => by rcases List.mem_append.1 hy with hy | hy; exact hs2 y hy; rw [List.mem_singleton.1 hy]; exact hi)
      rw [List.length_append, List.length_singleton] at hl1
      have hpi : (M.map paneOf).getD i default = paneOf M[i] := by simp [List.getD_eq_getElem?_getD, List.getElem?_eq_getElem hi]
      generalize hMi : M[i] = p at hpi
      refine Wc.skip ?_
      refine Wx.then_n ?_
      refine Wc.block ?_
      refine Wc.seq ?_
      refine Wc.region ?_
      refine Wl.entry (M := M) (seen := seen) (j := i) (ek := eKS) 3 rfl rfl rfl hi (fun w hw => hw.get (i := 1) rfl) ?_
      rw [hMi]
      refine Wl.extract rfl rfl rfl ?_
      refine Wl.extract rfl rfl rfl ?_
      refine Wl.alloc t286 rfl rfl (fun b15 => ?_)
      refine Wl.storew 5 t286 rfl rfl rfl rfl rfl rfl rfl ?_
      refine Wl.assign rfl rfl ?_
      refine Wl.nil ?_
      refine Wx.then_n ?_
      refine Wc.region ?_
      refine Wl.move rfl rfl ?_
      refine Wl.fld ⟨_, 0, none⟩ fl286_0 rfl rfl rfl ?_
      refine Wl.loadb 5 0 t2 rfl rfl rfl rfl ?_
      refine Wl.fld ⟨_, 1, none⟩ fl286_1 rfl rfl rfl ?_
      refine Wl.loadbs 5 1 t164 rfl rfl rfl rfl rfl ?_
      refine Wl.move rfl rfl ?_
      refine Wl.build (parts := _) [(0, _), (1, _), (2, _)] [.int .i64 p.1.1, .int .i64 p.1.2.frm, .int .i64 p.1.2.to, .int .i64 p.2] rfl rfl (fun w => run_build w _ _ _ (by kernel_rfl)) ?_
      refine Wl.slice1 Tryz.underlying53 t166 rfl rfl rfl rfl rfl rfl (fun b100 => ?_)
      refine Wl.app1e 4 6 ((paneOf p)) Tryz.underlying53 t166 rfl rfl rfl rfl rfl rfl rfl rfl rfl rfl rfl (by rw [List.length_map]; omega) (fun v101 => ?_)
      refine Wl.assign rfl rfl ?_
      refine Wl.nil ?_
      refine Wx.block_n ?_
      exact Wx.againS ⟨v101, seen ++ [i]⟩ (by (try dsimp only); rw [List.length_append, List.length_singleton]; omega) ⟨rfl, rfl, rfl, rfl, trivial⟩ ⟨by rw [List.nodup_append]; exact ⟨hs1, by simp, fun a ha b hb e => by rw [List.mem_singleton.1 hb] at e; exact hns (e ▸ ha)⟩, fun y hy => by rcases List.mem_append.1 hy with hy | hy; exact hs2 y hy; rw [List.mem_singleton.1 hy]; exact hi⟩ (fun w hw => by dsimp only; rw [List.map_append, List.map_singleton, hpi]; exact hw.take 5)
    ·
      have hg0 : g = none := by cases g with | none => rfl | some i => cases h89
      subst hg0
      have hperm : (seen.map (fun i => (M.map paneOf).getD i default)).Perm (M.map paneOf) := perm_of_seen (M.map paneOf) seen hs1 (fun i hi => by rw [List.length_map]; exact hs2 i hi) (fun i hi => hg i (by rw [List.length_map] at hi; exact hi))
      have hpl : (seen.map (fun i => (M.map paneOf).getD i default)).length = M.length := by rw [hperm.length_eq, List.length_map]
      generalize (seen.map (fun i => (M.map paneOf).getD i default)) = out at hperm hpl ⊢
      refine Wc.form 2 rfl (fun A6 c6 e6 hc6 _ => ?_)
      subst e6
      refine Wc.freeze 2 rfl ?_
      refine Wc.heap (fun w hw => hw.imp (R' := fun w => kPane.Row w A6 (sesT x (trips x l))) (fun w h => row_holds h.2)) ?_
      refine Wc.exit ?_
      refine Wx.then_e ?_
      refine Wx.then_e ?_
      refine Wx.block_e ?_
      refine Wx.then_n ?_
      refine Wc.seq ?_
      have hjl : (joinSes x.agg (sesT x (trips x l))).length ≤ 2147483648 := by have := joinGo_len x.agg (sortP (sesT x (trips x l))) []; rw [isort_length] at this; exact Nat.le_trans this (by simpa using hSl)
      refine Wc.region ?_
      refine Wl.move rfl rfl ?_
      refine Wl.fld ⟨_, 6, none⟩ fl31_4 rfl rfl rfl ?_
      refine Wl.loadb 0 6 t3 rfl rfl rfl rfl ?_
      refine Wl.move rfl rfl ?_
      refine Wl.callO [_, .slice A6 (sesT x (trips x l)).length c6] Tryz.func204 rfl rfl rfl rfl (fun w hw => join_calls _ x.agg A6 c6 (sesT x (trips x l)) w (hw.read fun w h => h) hc6 (by omega)) (fun v106 => ?_)
      refine Wl.form 4 rfl (fun A106 c106 e106 hc106 _ => ?_)
      subst e106
      refine Wl.freeze 4 rfl ?_
      refine Wl.heap (fun w hw => hw.imp (R' := fun w => kPane.Row w A106 (joinSes x.agg (sesT x (trips x l)))) (fun w h => row_holds h.2)) ?_
      refine Wl.appR (enc := ePane) (xs := out) (ys := (joinSes x.agg (sesT x (trips x l)))) 3 Tryz.underlying53 t166 (fun w h => h) rfl rfl rfl rfl rfl rfl (by omega) (fun v107 => ?_)
      refine Wl.form 3 rfl (fun A107 c107 e107 hc107 _ => ?_)
      subst e107
      refine Wl.freeze 3 rfl ?_
      refine Wl.heap (fun w hw => hw.imp (R' := fun w => kPane.Row w A107 (out ++ (joinSes x.agg (sesT x (trips x l))))) (fun w h => row_holds h.2)) ?_
      refine Wl.callO [.slice A107 (out ++ (joinSes x.agg (sesT x (trips x l)))).length c107] Tryz.func158 rfl rfl rfl rfl (fun w hw => winsort_calls _ A107 c107 (out ++ (joinSes x.agg (sesT x (trips x l)))) w (hw.read fun w h => h) hc107 (by rw [List.length_append]; omega)) (fun v108 => ?_)
      refine Wl.assign rfl rfl ?_
      refine Wl.nil ?_
      refine Wx.then_n ?_
      refine Wc.ret ?_
      rw [← nodePanes_eq (out := out) ‹x.kind = 7 → winOk x.win = true› h3 (by rw [hM]; exact hperm)]
      exact Wx.retO rfl rfl (fun w hw => hw.drop 0 |>.drop 0 |>.drop 0)

end Go.Proofs.YtkffjbijamfnoaaGreat
