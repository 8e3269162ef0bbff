/-
  A job's plan.
-/
import Derived.Test.YtkffjbijamfnoaaGreatMake
set_option linter.unusedVariables false
set_option linter.unusedSimpArgs false
namespace Go.Proofs.YtkffjbijamfnoaaGreat
open Go.RowKit

theorem nodeTasks_take (i : Nat) (par : Int) (p : Nat) (hp : (p : Int) < min par 4) : (nodeTasks i par).take (p + 1) = (nodeTasks i par).take p ++ [⟨i, p⟩] := by
  have h : p < (nodeTasks i par).length := by unfold nodeTasks; rw [List.length_map, List.length_range]; omega
  rw [List.take_succ_eq_append_getElem h]
  simp [nodeTasks]
theorem nodeTasks_all (i : Nat) (par : Int) (p : Nat) (hp : (p : Int) = min par 4) : (nodeTasks i par).take p = nodeTasks i par := List.take_of_length_le (by unfold nodeTasks; rw [List.length_map, List.length_range]; omega)
theorem tasksTo_succ (ns : List Node) (k : Nat) (hk : k < ns.length) : tasksTo ns (k + 1) = tasksTo ns k ++ nodeTasks k ns[k].par := mapIdx_to _ ns k hk
theorem flatMap_take' {α β : Type} (f : α → List β) (l : List α) (k : Nat) (hk : k < l.length) : (l.take (k + 1)).flatMap f = (l.take k).flatMap f ++ f l[k] := by
  rw [List.take_succ_eq_append_getElem hk, List.flatMap_append, List.flatMap_singleton]
theorem partAt_eq (T : List Task) (j : Nat) (hj : j < T.length) : partAt T j = T[j].part := by unfold partAt; rw [Int.toNat_natCast, List.getElem?_eq_getElem hj]; rfl

theorem make_calls (m : Nat → Prop) (J : Option Addr) (jc : Nat) (ns : List Node) (w : World) (hr : Ro m w (fun w => kNode.Row w J ns)) (hjc : ns.length ≤ jc) (hn : ns.length ≤ 12) (hin : ∀ x ∈ ns, (∀ k ∈ x.ins, 0 ≤ k ∧ k < ns.length) ∧ (1 ≤ x.par ∧ x.par ≤ 4) ∧ x.ins.length ≤ 4) :
    Calls Tryz.prog 90 #[.agg #[.slice J ns.length jc]] w (Post m w (fun g : (Option Addr × Nat) × (Option Addr × Nat) => .agg #[.slice g.1.1 (tasksOf ns).length g.1.2, .slice g.2.1 (chansOf ns).length g.2.2]) (fun g => (tasksOf ns).length ≤ g.1.2 ∧ (chansOf ns).length ≤ g.2.2) (fun _ => []) (fun g w => kTask.Row w g.1.1 (tasksOf ns) ∧ kChan.Row w g.2.1 (chansOf ns))) := by
  refine calls_of_Wc (args := [.agg #[.slice J ns.length jc]]) 122 Tryz.func90 rfl rfl (by simp) ?_
  refine Wc.start hr ?_
  refine Wc.seq ?_
  refine Wc.region ?_
  refine Wl.box rfl rfl rfl (fun b1 => ?_)
  refine Wl.alloc t42 rfl rfl (fun b2 => ?_)
  refine Wl.nil ?_
  refine Wx.then_n ?_
  refine Wc.seq ?_
  refine Wc.region ?_
  refine Wl.alloc t42 rfl rfl (fun b3 => ?_)
  refine Wl.nil ?_
  refine Wx.then_n ?_
  refine Wc.seq ?_
  refine Wc.seq ?_
  refine Wc.region ?_
  refine Wl.fld ⟨_, 0, none⟩ fl34_0 rfl rfl rfl ?_
  refine Wl.loadb 0 0 t32 rfl rfl rfl rfl ?_
  refine Wl.len Tryz.underlying32 rfl rfl ?_
  refine Wl.move rfl rfl ?_
  refine Wl.nil ?_
  refine Wx.then_n ?_
  refine Wc.block ?_
  refine Wc.loopS (G := (Option Addr × Nat) × Nat) (fun g => match g with | ⟨⟨TA, tc⟩, i⟩ => [(1, .pointer (some ⟨b1, 0, none⟩)), (2, .pointer (some ⟨b2, 0, none⟩)), (3, .pointer (some ⟨b3, 0, none⟩)), (17, .slice J ns.length jc), (18, .int .i64 ns.length), (19, .int .i64 i)]) (fun g => match g with | ⟨⟨TA, tc⟩, i⟩ => i ≤ ns.length) (fun g => match g with | ⟨⟨TA, tc⟩, i⟩ => [.box b1 [.slice J ns.length jc] 34, .box b2 [.slice none 0 0, .slice none 0 0] 42, .box b3 [.slice TA (tasksTo ns i).length tc, .slice none 0 0] 42, rowOf eTask (.slice TA (tasksTo ns i).length tc) 115 2 (tasksTo ns i)]) (fun g => match g with | ⟨⟨TA, tc⟩, i⟩ => fun w => kNode.Row w J ns) (fun g => match g with | ⟨⟨TA, tc⟩, i⟩ => ns.length - i) ⟨(none, 0), 0⟩ ⟨rfl, rfl, rfl, rfl, rfl, rfl, trivial⟩ (Nat.zero_le _) (fun w hw => hw.nil 115 2) ?_
  rintro ⟨⟨TA, tc⟩, i⟩ hi0
  dsimp only
  refine Wc.seq ?_
  refine Wc.region ?_
  refine Wl.lss rfl rfl rfl ?_
  refine Wl.nil ?_
  refine Wx.then_n ?_
  refine Wc.seq ?_
  refine Wc.condp rfl (fun h20 => ?_) (fun h20 => ?_)
  ·
    have hi : i < ns.length := by omega
    have htl := tasksTo_len ns i (by omega)
    have hts := tasksTo_succ ns i hi
    obtain ⟨hii, hpar, hil⟩ := hin _ (List.getElem_mem hi)
    refine Wc.pure (p := ∃ ad, J = some ad) (fun w hw => hw.addr (fun w h => h) (by omega)) ?_
    rintro ⟨jd, rfl⟩
    refine Wc.exS (fun w hw => hw.node_get (fun w h => h) i hi) ?_
    rintro ⟨⟨A2, c2⟩, A4, c4⟩ hcc2
    dsimp only at hcc2 ⊢
    refine Wc.skip ?_
    refine Wx.then_n ?_
    refine Wc.seq ?_
    refine Wc.block ?_
    refine Wc.seq ?_
    refine Wc.region ?_
    refine Wl.move rfl rfl ?_
    refine Wl.idx Tryz.underlying32 t31 rfl rfl rfl hi ?_
    refine Wl.loadrw (cs := (nodeCells ns[i] ((A2, c2), (A4, c4)))) t31 (fun w h => h.2.1) rfl rfl rfl ?_
    refine Wl.alloc t31 rfl rfl (fun b5 => ?_)
    refine Wl.assign rfl rfl ?_
    refine Wl.storew 4 t31 rfl rfl rfl rfl rfl rfl rfl ?_
    refine Wl.nil ?_
    refine Wx.then_n ?_
    refine Wc.seq ?_
    refine Wc.region ?_
    refine Wl.fld ⟨_, 2, none⟩ fl31_2 rfl rfl rfl ?_
    refine Wl.loadb 4 2 t3 rfl rfl rfl rfl ?_
    refine Wl.mini rfl rfl rfl ?_
    refine Wl.move rfl rfl ?_
    refine Wl.nil ?_
    refine Wx.then_n ?_
    refine Wc.block ?_
    refine Wc.loopS (G := (Option Addr × Nat) × Nat) (fun g => match g with | ⟨⟨TA, tc⟩, p⟩ => [(1, .pointer (some ⟨b1, 0, none⟩)), (2, .pointer (some ⟨b2, 0, none⟩)), (3, .pointer (some ⟨b3, 0, none⟩)), (4, .int .i64 i), (5, .pointer (some ⟨b5, 0, none⟩)), (17, .slice (some jd) ns.length jc), (18, .int .i64 ns.length), (19, .int .i64 i), (26, .int .i64 (min ns[i].par 4)), (27, .int .i64 p)]) (fun g => match g with | ⟨⟨TA, tc⟩, p⟩ => (p : Int) ≤ min ns[i].par 4) (fun g => match g with | ⟨⟨TA, tc⟩, p⟩ => [.box b1 [.slice (some jd) ns.length jc] 34, .box b2 [.slice none 0 0, .slice none 0 0] 42, .box b3 [.slice TA (tasksTo ns i ++ (nodeTasks i ns[i].par).take p).length tc, .slice none 0 0] 42, rowOf eTask (.slice TA (tasksTo ns i ++ (nodeTasks i ns[i].par).take p).length tc) 115 2 (tasksTo ns i ++ (nodeTasks i ns[i].par).take p), .box b5 (nodeCells ns[i] ((A2, c2), (A4, c4))) 31]) (fun g => match g with | ⟨⟨TA, tc⟩, p⟩ => (fun w => kNode.Row w (some jd) ns ∧ Cells w (jd.add (i * 10)) (nodeCells ns[i] ((A2, c2), (A4, c4))) ∧ kInt.Row w A2 ns[i].ins ∧ kExpr.Row w A4 ns[i].e.l)) (fun g => match g with | ⟨⟨TA, tc⟩, p⟩ => (min ns[i].par 4).toNat - p) ⟨(TA, tc), 0⟩ ⟨rfl, rfl, rfl, rfl, rfl, rfl, rfl, rfl, rfl, rfl, trivial⟩ (by dsimp only; omega) (fun w hw => by simp only [List.take_zero, List.append_nil]; exact hw) ?_
    rintro ⟨⟨TA, tc⟩, p⟩ hp0
    dsimp only
    refine Wc.seq ?_
    refine Wc.region ?_
    refine Wl.lss rfl rfl rfl ?_
    refine Wl.nil ?_
    refine Wx.then_n ?_
    refine Wc.seq ?_
    refine Wc.condp rfl (fun h28 => ?_) (fun h28 => ?_)
    ·
      have hpt := nodeTasks_take i ns[i].par p (by omega)
      have hTe : tasksTo ns i ++ (nodeTasks i ns[i].par).take (p + 1) = (tasksTo ns i ++ (nodeTasks i ns[i].par).take p) ++ [⟨i, p⟩] := by rw [hpt, List.append_assoc]
      have hTl : (tasksTo ns i ++ (nodeTasks i ns[i].par).take p).length ≤ 52 := by rw [List.length_append, List.length_take]; omega
      generalize (tasksTo ns i ++ (nodeTasks i ns[i].par).take p) = T at hTe hTl ⊢
      refine Wc.skip ?_
      refine Wx.then_n ?_
      refine Wc.seq ?_
      refine Wc.block ?_
      refine Wc.seq ?_
      refine Wc.region ?_
      refine Wl.move rfl rfl ?_
      refine Wl.assign rfl rfl ?_
      refine Wl.nil ?_
      refine Wx.then_n ?_
      refine Wc.region ?_
      refine Wl.fld ⟨_, 0, none⟩ fl42_0 rfl rfl rfl ?_
      refine Wl.loadb 2 0 t39 rfl rfl rfl rfl ?_
      refine Wl.move rfl rfl ?_
      refine Wl.move rfl rfl ?_
      refine Wl.build (parts := _) [(0, _), (1, _)] [.int .i64 i, .int .i64 p] rfl rfl (fun w => run_build w _ _ _ (by kernel_rfl)) ?_
      refine Wl.slice1 Tryz.underlying39 t115 rfl rfl rfl rfl rfl rfl (fun b35 => ?_)
      refine Wl.app1e 3 5 ((⟨i, p⟩ : Task)) Tryz.underlying39 t115 rfl rfl rfl rfl rfl rfl rfl rfl rfl rfl rfl (by omega) (fun v36 => ?_)
      refine Wl.form 3 rfl (fun A36 c36 e36 hc36 _ => ?_)
      subst e36
      refine Wl.fld ⟨_, 0, none⟩ fl42_0 rfl rfl rfl ?_
      refine Wl.store 2 0 t39 rfl rfl rfl rfl rfl rfl rfl ?_
      refine Wl.nil ?_
      refine Wx.block_n ?_
      refine Wx.then_n ?_
      refine Wc.region ?_
      refine Wl.add rfl rfl rfl (by omega) ?_
      refine Wl.move rfl rfl ?_
      refine Wl.nil ?_
      exact Wx.againS ⟨(A36, c36), p + 1⟩ (by (try dsimp only); omega) ⟨rfl, rfl, rfl, rfl, rfl, rfl, rfl, rfl, rfl, rfl, trivial⟩ (by (try dsimp only); omega) (fun w hw => by (try dsimp only); rw [hTe]; exact hw.take 5)
    ·
      refine Wc.exit ?_
      refine Wx.then_e ?_
      refine Wx.then_e ?_
      refine Wx.block_e ?_
      refine Wx.block_n ?_
      refine Wx.then_n ?_
      refine Wc.region ?_
      refine Wl.add rfl rfl rfl (by omega) ?_
      refine Wl.move rfl rfl ?_
      refine Wl.nil ?_
      have hpe := nodeTasks_all i ns[i].par p (by omega)
      exact Wx.againS ⟨(TA, tc), i + 1⟩ (by (try dsimp only); omega) ⟨rfl, rfl, rfl, rfl, rfl, rfl, trivial⟩ hi (fun w hw => by (try dsimp only); rw [hts]; rw [hpe] at hw; exact (hw.take 4).imp fun w h => h.1)
  ·
    obtain rfl : i = ns.length := by omega
    rw [tasksTo_all]
    have htl := tasks_len ns
    refine Wc.form 3 rfl (fun TA' tc' eT hct _ => ?_)
    injection eT with eT1 eT2 eT3
    subst eT1 eT3
    refine Wc.freeze 3 rfl ?_
    refine Wc.heap (fun w hw => ((hw.nil 118 3).imp (R' := fun w => kNode.Row w J ns ∧ kTask.Row w TA (tasksOf ns)) (fun w h => ⟨h.1, row_holds h.2⟩))) ?_
    refine Wc.exit ?_
    refine Wx.then_e ?_
    refine Wx.then_e ?_
    refine Wx.block_e ?_
    refine Wx.then_n ?_
    refine Wc.seq ?_
    refine Wc.seq ?_
    refine Wc.region ?_
    refine Wl.fld ⟨_, 0, none⟩ fl34_0 rfl rfl rfl ?_
    refine Wl.loadb 0 0 t32 rfl rfl rfl rfl ?_
    refine Wl.len Tryz.underlying32 rfl rfl ?_
    refine Wl.move rfl rfl ?_
    refine Wl.nil ?_
    refine Wx.then_n ?_
    refine Wc.block ?_
    refine Wc.loopS (G := List Chan × (Option Addr × Nat) × Nat) (fun g => match g with | ⟨C, ⟨CA, cc⟩, i⟩ => [(1, .pointer (some ⟨b1, 0, none⟩)), (2, .pointer (some ⟨b2, 0, none⟩)), (3, .pointer (some ⟨b3, 0, none⟩)), (41, .slice J ns.length jc), (42, .int .i64 ns.length), (43, .int .i64 i)]) (fun g => match g with | ⟨C, ⟨CA, cc⟩, i⟩ => i ≤ ns.length ∧ C = ((ns.mapIdx (nodeChans ns (tasksOf ns))).take i).flatten ∧ C.length ≤ 10000 * i) (fun g => match g with | ⟨C, ⟨CA, cc⟩, i⟩ => [.box b1 [.slice J ns.length jc] 34, .box b2 [.slice none 0 0, .slice none 0 0] 42, (.box b3 [.slice TA (tasksOf ns).length tc, .slice CA C.length cc] 42), rowOf eChan (.slice CA C.length cc) 118 3 C]) (fun g => match g with | ⟨C, ⟨CA, cc⟩, i⟩ => fun w => kNode.Row w J ns ∧ kTask.Row w TA (tasksOf ns)) (fun g => match g with | ⟨C, ⟨CA, cc⟩, i⟩ => ns.length - i) ⟨[], (none, 0), 0⟩ ⟨rfl, rfl, rfl, rfl, rfl, rfl, trivial⟩ ⟨Nat.zero_le _, rfl, Nat.zero_le _⟩ (fun w hw => hw) ?_
    rintro ⟨C, ⟨CA, cc⟩, i⟩ ⟨hi0, hC, hCl⟩
    dsimp only
    refine Wc.seq ?_
    refine Wc.region ?_
    refine Wl.lss rfl rfl rfl ?_
    refine Wl.nil ?_
    refine Wx.then_n ?_
    refine Wc.seq ?_
    refine Wc.condp rfl (fun h44 => ?_) (fun h44 => ?_)
    ·
      have hi : i < ns.length := by omega
      have hcs := mapIdx_to (nodeChans ns (tasksOf ns)) ns i hi
      obtain ⟨hii, hpar, hil⟩ := hin _ (List.getElem_mem hi)
      refine Wc.pure (p := ∃ ad, J = some ad) (fun w hw => hw.addr (fun w h => h.1) (by omega)) ?_
      rintro ⟨jd, rfl⟩
      refine Wc.exS (fun w hw => hw.node_get (fun w h => h.1) i hi) ?_
      rintro ⟨⟨A2, c2⟩, A4, c4⟩ hcc2
      dsimp only at hcc2 ⊢
      refine Wc.skip ?_
      refine Wx.then_n ?_
      refine Wc.seq ?_
      refine Wc.block ?_
      refine Wc.seq ?_
      refine Wc.region ?_
      refine Wl.move rfl rfl ?_
      refine Wl.idx Tryz.underlying32 t31 rfl rfl rfl hi ?_
      refine Wl.loadrw (cs := (nodeCells ns[i] ((A2, c2), (A4, c4)))) t31 (fun w h => h.2.1) rfl rfl rfl ?_
      refine Wl.alloc t3 rfl rfl (fun b7 => ?_)
      refine Wl.alloc t31 rfl rfl (fun b8 => ?_)
      refine Wl.storew 4 t3 rfl rfl rfl rfl rfl rfl rfl ?_
      refine Wl.storew 5 t31 rfl rfl rfl rfl rfl rfl rfl ?_
      refine Wl.nil ?_
      refine Wx.then_n ?_
      refine Wc.seq ?_
      refine Wc.freeze 4 rfl ?_
      refine Wc.region ?_
      refine Wl.fld ⟨_, 1, none⟩ fl31_1 rfl rfl rfl ?_
      refine Wl.loadb 4 1 t24 rfl rfl rfl rfl ?_
      refine Wl.len Tryz.underlying24 rfl rfl ?_
      refine Wl.move rfl rfl ?_
      refine Wl.nil ?_
      refine Wx.then_n ?_
      refine Wc.block ?_
      refine Wc.loopS (G := List Chan × (Option Addr × Nat) × Nat) (fun g => match g with | ⟨C, ⟨CA, cc⟩, x⟩ => [(1, .pointer (some ⟨b1, 0, none⟩)), (2, .pointer (some ⟨b2, 0, none⟩)), (3, .pointer (some ⟨b3, 0, none⟩)), (41, .slice (some jd) ns.length jc), (42, .int .i64 ns.length), (43, .int .i64 i), (7, .pointer (some ⟨b7, 0, none⟩)), (8, .pointer (some ⟨b8, 0, none⟩)), (49, .slice A2 ns[i].ins.length c2), (50, .int .i64 ns[i].ins.length), (51, .int .i64 x)]) (fun g => match g with | ⟨C, ⟨CA, cc⟩, x⟩ => x ≤ ns[i].ins.length ∧ C = ((ns.mapIdx (nodeChans ns (tasksOf ns))).take i).flatten ++ ((ns[i].ins.mapIdx (chanIn ns (tasksOf ns) i ns[i])).take x).flatten ∧ C.length ≤ 10000 * i + 2500 * x) (fun g => match g with | ⟨C, ⟨CA, cc⟩, x⟩ => [.box b1 [.slice (some jd) ns.length jc] 34, .box b2 [.slice none 0 0, .slice none 0 0] 42, (.box b3 [.slice TA (tasksOf ns).length tc, .slice CA C.length cc] 42), rowOf eChan (.slice CA C.length cc) 118 3 C, .box b8 (nodeCells ns[i] ((A2, c2), (A4, c4))) 31]) (fun g => match g with | ⟨C, ⟨CA, cc⟩, x⟩ => fun w => ((kNode.Row w (some jd) ns ∧ kTask.Row w TA (tasksOf ns)) ∧ Cells w (jd.add (i * 10)) (nodeCells ns[i] ((A2, c2), (A4, c4))) ∧ kInt.Row w A2 ns[i].ins ∧ kExpr.Row w A4 ns[i].e.l) ∧ (Blk.box b7 [.int .i64 i] 3).holds w) (fun g => match g with | ⟨C, ⟨CA, cc⟩, x⟩ => ns[i].ins.length - x) ⟨C, (CA, cc), 0⟩ ⟨rfl, rfl, rfl, rfl, rfl, rfl, rfl, rfl, rfl, rfl, rfl, trivial⟩ ⟨Nat.zero_le _, by (try dsimp only); rw [List.take_zero, List.flatten_nil, List.append_nil]; exact hC, by (try dsimp only); omega⟩ (fun w hw => hw) ?_
      rintro ⟨C, ⟨CA, cc⟩, x⟩ ⟨hx0, hC, hCl⟩
      dsimp only
      refine Wc.seq ?_
      refine Wc.region ?_
      refine Wl.lss rfl rfl rfl ?_
      refine Wl.nil ?_
      refine Wx.then_n ?_
      refine Wc.seq ?_
      refine Wc.condp rfl (fun h52 => ?_) (fun h52 => ?_)
      ·
        have hx : x < ns[i].ins.length := by omega
        have hns := mapIdx_to (chanIn ns (tasksOf ns) i ns[i]) ns[i].ins x hx
        have hkr := hii _ (List.getElem_mem hx)
        generalize hk : ns[i].ins[x] = ki at hns hkr
        obtain ⟨k, rfl⟩ : ∃ k : Nat, ki = k := ⟨ki.toNat, by omega⟩
        have hkn : k < ns.length := by omega
        refine Wc.pure (p := ∃ ad, A2 = some ad) (fun w hw => hw.addr (fun w h => h.1.2.2.1) (by omega)) ?_
        rintro ⟨ad2, rfl⟩
        refine Wc.skip ?_
        refine Wx.then_n ?_
        refine Wc.seq ?_
        refine Wc.block ?_
        refine Wc.seq ?_
        refine Wc.region ?_
        refine Wl.move rfl rfl ?_
        refine Wl.idx Tryz.underlying24 t3 rfl rfl rfl hx ?_
        refine Wl.loadr (j := 0) (cs := eInt ns[i].ins[x]) t3 (fun w h => h.1.2.2.1.cells x hx) rfl rfl (Addr.add_zero' _).symm rfl ?_
        refine Wl.alloc t3 rfl rfl (fun b10 => ?_)
        refine Wl.assign rfl rfl ?_
        refine Wl.storew 5 t3 rfl rfl rfl rfl rfl rfl rfl ?_
        refine Wl.nil ?_
        refine Wx.then_n ?_
        refine Wc.seq ?_
        refine Wc.seq ?_
        rw [hk]
        refine Wc.freeze 5 rfl ?_
        refine Wc.exS (fun w hw => hw.node_get (fun w h => h.1.1.1.1) k hkn) ?_
        rintro ⟨⟨A6, c6⟩, A9, c9⟩ hcc6
        dsimp only at hcc6 ⊢
        refine Wc.region ?_
        refine Wl.loadbw 0 t34 rfl rfl rfl rfl ?_
        refine Wl.loadr (j := 0) (cs := [.int .i64 k]) t3 (fun w h => Blk.box_cells h.1.2) rfl rfl (Addr.add_zero' _).symm rfl ?_
        refine Wl.callV [.agg #[.slice (some jd) ns.length jc], .int .i64 k] Tryz.func134 rfl rfl rfl rfl (fun w hw => planis_calls _ (some jd) jc ns k w (hw.read fun w h => h.1.1.1.1.1)) ?_
        refine Wl.not rfl rfl ?_
        refine Wl.nil ?_
        refine Wx.then_n ?_
        refine Wc.cond_f (congrArg (fun z => some (Value.bool z)) (by rw [decide_eq_true (show (0 : Int) ≤ k by omega), decide_eq_true (show (k : Int) < ns.length by omega)]; rfl)) ?_
        refine Wc.skip ?_
        refine Wx.then_n ?_
        refine Wc.cutS (G := Bool) (fun g => match g with | all => [(1, .pointer (some ⟨b1, 0, none⟩)), (2, .pointer (some ⟨b2, 0, none⟩)), (3, .pointer (some ⟨b3, 0, none⟩)), (41, .slice (some jd) ns.length jc), (42, .int .i64 ns.length), (43, .int .i64 i), (7, .pointer (some ⟨b7, 0, none⟩)), (8, .pointer (some ⟨b8, 0, none⟩)), (49, .slice (some ad2) ns[i].ins.length c2), (50, .int .i64 ns[i].ins.length), (51, .int .i64 x), (9, .int .i64 x), (10, .pointer (some ⟨b10, 0, none⟩)), (11, .bool all)]) (fun g => match g with | all => all = allOf ns ns[i] k) (fun g => match g with | all => [.box b1 [.slice (some jd) ns.length jc] 34, .box b2 [.slice none 0 0, .slice none 0 0] 42, (.box b3 [.slice TA (tasksOf ns).length tc, .slice CA C.length cc] 42), rowOf eChan (.slice CA C.length cc) 118 3 C, .box b8 (nodeCells ns[i] ((some ad2, c2), (A4, c4))) 31]) (fun g => match g with | all => fun w => ((((kNode.Row w (some jd) ns ∧ kTask.Row w TA (tasksOf ns)) ∧ Cells w (jd.add (i * 10)) (nodeCells ns[i] ((some ad2, c2), (A4, c4))) ∧ kInt.Row w (some ad2) ns[i].ins ∧ kExpr.Row w A4 ns[i].e.l) ∧ (Blk.box b7 [.int .i64 i] 3).holds w) ∧ (Blk.box b10 [.int .i64 k] 3).holds w) ∧ Cells w (jd.add (k * 10)) (nodeCells ns[k] ((A6, c6), (A9, c9))) ∧ kInt.Row w A6 ns[k].ins ∧ kExpr.Row w A9 ns[k].e.l) ?_ ?_
        ·
          refine Wc.draw mixed (by kernel_rfl) (fun w hw => hw.drew) ?_
          refine Wl.loadbw 0 t34 rfl rfl rfl rfl ?_
          refine Wl.loadr (j := 0) (cs := [.int .i64 i]) t3 (fun w h => Blk.box_cells h.1.1.2) rfl rfl (Addr.add_zero' _).symm rfl ?_
          refine Wl.callV [.agg #[.slice (some jd) ns.length jc], .int .i64 i] Tryz.func135 rfl rfl rfl rfl (fun w hw => plankeyed_calls _ (some jd) jc ns i hi w (hw.read fun w h => h.1.1.1.1.1)) ?_
          refine Wl.move rfl rfl ?_
          refine Wl.split 63 rfl (fun h63 => ?_) (fun h63 => ?_)
          ·
            refine Wl.skip rfl rfl ?_
            refine Wl.skip rfl rfl ?_
            refine Wl.skip rfl rfl ?_
            refine Wl.skip rfl rfl ?_
            refine Wl.skip rfl rfl ?_
            refine Wl.skip rfl rfl ?_
            refine Wl.skip rfl rfl ?_
            refine Wl.skip rfl rfl ?_
            refine Wl.skip rfl rfl ?_
            refine Wl.pick_t rfl rfl rfl ?_
            refine Wl.assign rfl rfl ?_
            refine Wl.nilq ?_
            exact Wx.metS _ ⟨rfl, rfl, rfl, rfl, rfl, rfl, rfl, rfl, rfl, rfl, rfl, rfl, rfl, rfl, trivial⟩ (by unfold allOf; rw [h63]; rfl) (fun w hw => hw)
          ·
            refine Wl.fld ⟨_, 0, none⟩ fl34_0 rfl rfl rfl ?_
            refine Wl.loadb 0 0 t32 rfl rfl rfl rfl ?_
            refine Wl.loadr (j := 0) (cs := [.int .i64 k]) t3 (fun w h => Blk.box_cells h.1.2) rfl rfl (Addr.add_zero' _).symm rfl ?_
            refine Wl.idx Tryz.underlying32 t31 rfl rfl rfl hkn ?_
            refine Wl.fld _ fl31_2 rfl rfl rfl ?_
            refine Wl.loadr (j := 2) (cs := (nodeCells ns[k] ((A6, c6), (A9, c9)))) t3 (fun w h => h.2.1) rfl rfl rfl rfl ?_
            refine Wl.fld ⟨_, 2, none⟩ fl31_2 rfl rfl rfl ?_
            refine Wl.loadb 4 2 t3 rfl rfl rfl rfl ?_
            refine Wl.neq rfl rfl rfl ?_
            refine Wl.pick_f rfl rfl rfl ?_
            refine Wl.assign rfl rfl ?_
            refine Wl.nilq ?_
            exact Wx.metS _ ⟨rfl, rfl, rfl, rfl, rfl, rfl, rfl, rfl, rfl, rfl, rfl, rfl, rfl, rfl, trivial⟩ (by (try dsimp only); unfold allOf; rw [h63, Int.toNat_natCast, List.getElem?_eq_getElem hkn]; rfl) (fun w hw => hw)
        ·
          rintro all hall
          dsimp only
          refine Wc.seq ?_
          refine Wc.region ?_
          refine Wl.fld ⟨_, 0, none⟩ fl42_0 rfl rfl rfl ?_
          refine Wl.loadb 2 0 t39 rfl rfl rfl rfl ?_
          refine Wl.mkfun [_] rfl rfl ?_
          refine Wl.callO [.slice TA (tasksOf ns).length tc, .func (.func 137) #[] #[.pointer (some ⟨b10, 0, none⟩)]] Tryz.func136 rfl rfl rfl rfl (fun w hw => chosen_calls _ TA tc (tasksOf ns) (fun w => Cells w ⟨b10, 0, none⟩ [.int .i64 k]) 137 _ Tryz.func137 rfl rfl [.pointer (some ⟨b10, 0, none⟩)] (isOf k) (fun m w x hr => make1_calls m x ⟨b10, 0, none⟩ k w hr) w (hw.read fun w h => ⟨Blk.box_cells h.1.2, h.1.1.1.1.2⟩) (by omega)) (fun v77 => ?_)
          refine Wl.form 5 rfl (fun A77 c77 e77 hc77 _ => ?_)
          subst e77
          refine Wl.freeze 5 rfl ?_
          refine Wl.heap (fun w hw => hw.imp (R' := fun w => (((((kNode.Row w (some jd) ns ∧ kTask.Row w TA (tasksOf ns)) ∧ Cells w (jd.add (i * 10)) (nodeCells ns[i] ((some ad2, c2), (A4, c4))) ∧ kInt.Row w (some ad2) ns[i].ins ∧ kExpr.Row w A4 ns[i].e.l) ∧ (Blk.box b7 [.int .i64 i] 3).holds w) ∧ (Blk.box b10 [.int .i64 k] 3).holds w) ∧ Cells w (jd.add (k * 10)) (nodeCells ns[k] ((A6, c6), (A9, c9))) ∧ kInt.Row w A6 ns[k].ins ∧ kExpr.Row w A9 ns[k].e.l) ∧ kInt.Row w A77 (idxs (isOf k) (tasksOf ns))) (fun w h => ⟨h.1, row_holds h.2⟩)) ?_
          refine Wl.len Tryz.underlying24 rfl rfl ?_
          refine Wl.move rfl rfl ?_
          refine Wl.nil ?_
          refine Wx.then_n ?_
          refine Wc.block ?_
          refine Wc.loopS (G := List Chan × (Option Addr × Nat) × Nat) (fun g => match g with | ⟨C, ⟨CA, cc⟩, a⟩ => [(1, .pointer (some ⟨b1, 0, none⟩)), (2, .pointer (some ⟨b2, 0, none⟩)), (3, .pointer (some ⟨b3, 0, none⟩)), (41, .slice (some jd) ns.length jc), (42, .int .i64 ns.length), (43, .int .i64 i), (7, .pointer (some ⟨b7, 0, none⟩)), (8, .pointer (some ⟨b8, 0, none⟩)), (49, .slice (some ad2) ns[i].ins.length c2), (50, .int .i64 ns[i].ins.length), (51, .int .i64 x), (9, .int .i64 x), (10, .pointer (some ⟨b10, 0, none⟩)), (11, .bool all), (77, .slice A77 (idxs (isOf k) (tasksOf ns)).length c77), (78, .int .i64 (idxs (isOf k) (tasksOf ns)).length), (79, .int .i64 a)]) (fun g => match g with | ⟨C, ⟨CA, cc⟩, a⟩ => a ≤ (idxs (isOf k) (tasksOf ns)).length ∧ C = (((ns.mapIdx (nodeChans ns (tasksOf ns))).take i).flatten ++ ((ns[i].ins.mapIdx (chanIn ns (tasksOf ns) i ns[i])).take x).flatten) ++ ((idxs (isOf k) (tasksOf ns)).take a).flatMap (fun f => (idxs (isOf i) (tasksOf ns)).flatMap (chanTo (tasksOf ns) all x f)) ∧ C.length ≤ 10000 * i + 2500 * x + 48 * a) (fun g => match g with | ⟨C, ⟨CA, cc⟩, a⟩ => [.box b1 [.slice (some jd) ns.length jc] 34, .box b2 [.slice none 0 0, .slice none 0 0] 42, (.box b3 [.slice TA (tasksOf ns).length tc, .slice CA C.length cc] 42), rowOf eChan (.slice CA C.length cc) 118 3 C, .box b8 (nodeCells ns[i] ((some ad2, c2), (A4, c4))) 31]) (fun g => match g with | ⟨C, ⟨CA, cc⟩, a⟩ => fun w => (((((kNode.Row w (some jd) ns ∧ kTask.Row w TA (tasksOf ns)) ∧ Cells w (jd.add (i * 10)) (nodeCells ns[i] ((some ad2, c2), (A4, c4))) ∧ kInt.Row w (some ad2) ns[i].ins ∧ kExpr.Row w A4 ns[i].e.l) ∧ (Blk.box b7 [.int .i64 i] 3).holds w) ∧ (Blk.box b10 [.int .i64 k] 3).holds w) ∧ Cells w (jd.add (k * 10)) (nodeCells ns[k] ((A6, c6), (A9, c9))) ∧ kInt.Row w A6 ns[k].ins ∧ kExpr.Row w A9 ns[k].e.l) ∧ kInt.Row w A77 (idxs (isOf k) (tasksOf ns))) (fun g => match g with | ⟨C, ⟨CA, cc⟩, a⟩ => (idxs (isOf k) (tasksOf ns)).length - a) ⟨C, (CA, cc), 0⟩ ⟨rfl, rfl, rfl, rfl, rfl, rfl, rfl, rfl, rfl, rfl, rfl, rfl, rfl, rfl, rfl, rfl, rfl, trivial⟩ ⟨Nat.zero_le _, by (try dsimp only); rw [List.take_zero, List.flatMap_nil, List.append_nil]; exact hC, by (try dsimp only); omega⟩ (fun w hw => hw) ?_
          rintro ⟨C, ⟨CA, cc⟩, a⟩ ⟨ha0, hC, hCl⟩
          dsimp only
          refine Wc.seq ?_
          refine Wc.region ?_
          refine Wl.lss rfl rfl rfl ?_
          refine Wl.nil ?_
          refine Wx.then_n ?_
          refine Wc.seq ?_
          refine Wc.condp rfl (fun h80 => ?_) (fun h80 => ?_)
          ·
            have ha : a < (idxs (isOf k) (tasksOf ns)).length := by omega
            have hfl := idxs_len (isOf k) (tasksOf ns)
            have hfs := flatMap_take' (fun f => (idxs (isOf i) (tasksOf ns)).flatMap (chanTo (tasksOf ns) all x f)) (idxs (isOf k) (tasksOf ns)) a ha
            obtain ⟨f, hf, hfj, _⟩ := idxs_in (List.getElem_mem ha)
            refine Wc.pure (p := ∃ ad, A77 = some ad) (fun w hw => hw.addr (fun w h => h.2) (by omega)) ?_
            rintro ⟨ad77, rfl⟩
            refine Wc.skip ?_
            refine Wx.then_n ?_
            refine Wc.seq ?_
            refine Wc.block ?_
            refine Wc.seq ?_
            refine Wc.region ?_
            refine Wl.idx Tryz.underlying24 t3 rfl rfl rfl ha ?_
            refine Wl.loadr (j := 0) (cs := eInt (idxs (isOf k) (tasksOf ns))[a]) t3 (fun w h => h.2.cells a ha) rfl rfl (Addr.add_zero' _).symm rfl ?_
            refine Wl.assign rfl rfl ?_
            refine Wl.nil ?_
            refine Wx.then_n ?_
            refine Wc.seq ?_
            rw [hf]
            refine Wc.region ?_
            refine Wl.fld ⟨_, 0, none⟩ fl42_0 rfl rfl rfl ?_
            refine Wl.loadb 2 0 t39 rfl rfl rfl rfl ?_
            refine Wl.mkfun [_] rfl rfl ?_
            refine Wl.callO [.slice TA (tasksOf ns).length tc, .func (.func 138) #[] #[.pointer (some ⟨b7, 0, none⟩)]] Tryz.func136 rfl rfl rfl rfl (fun w hw => chosen_calls _ TA tc (tasksOf ns) (fun w => Cells w ⟨b7, 0, none⟩ [.int .i64 i]) 138 _ Tryz.func138 rfl rfl [.pointer (some ⟨b7, 0, none⟩)] (isOf i) (fun m w x hr => make2_calls m x ⟨b7, 0, none⟩ i w hr) w (hw.read fun w h => ⟨Blk.box_cells h.1.1.1.2, h.1.1.1.1.1.2⟩) (by omega)) (fun v86 => ?_)
            refine Wl.form 5 rfl (fun A86 c86 e86 hc86 _ => ?_)
            subst e86
            refine Wl.freeze 5 rfl ?_
            refine Wl.heap (fun w hw => hw.imp (R' := fun w => ((((((kNode.Row w (some jd) ns ∧ kTask.Row w TA (tasksOf ns)) ∧ Cells w (jd.add (i * 10)) (nodeCells ns[i] ((some ad2, c2), (A4, c4))) ∧ kInt.Row w (some ad2) ns[i].ins ∧ kExpr.Row w A4 ns[i].e.l) ∧ (Blk.box b7 [.int .i64 i] 3).holds w) ∧ (Blk.box b10 [.int .i64 k] 3).holds w) ∧ Cells w (jd.add (k * 10)) (nodeCells ns[k] ((A6, c6), (A9, c9))) ∧ kInt.Row w A6 ns[k].ins ∧ kExpr.Row w A9 ns[k].e.l) ∧ kInt.Row w (some ad77) (idxs (isOf k) (tasksOf ns))) ∧ kInt.Row w A86 (idxs (isOf i) (tasksOf ns))) (fun w h => ⟨h.1, row_holds h.2⟩)) ?_
            refine Wl.len Tryz.underlying24 rfl rfl ?_
            refine Wl.move rfl rfl ?_
            refine Wl.nil ?_
            refine Wx.then_n ?_
            refine Wc.block ?_
            refine Wc.loopS (G := List Chan × (Option Addr × Nat) × Nat) (fun g => match g with | ⟨C, ⟨CA, cc⟩, b⟩ => [(1, .pointer (some ⟨b1, 0, none⟩)), (2, .pointer (some ⟨b2, 0, none⟩)), (3, .pointer (some ⟨b3, 0, none⟩)), (41, .slice (some jd) ns.length jc), (42, .int .i64 ns.length), (43, .int .i64 i), (7, .pointer (some ⟨b7, 0, none⟩)), (8, .pointer (some ⟨b8, 0, none⟩)), (49, .slice (some ad2) ns[i].ins.length c2), (50, .int .i64 ns[i].ins.length), (51, .int .i64 x), (9, .int .i64 x), (10, .pointer (some ⟨b10, 0, none⟩)), (11, .bool all), (13, .int .i64 f), (77, .slice (some ad77) (idxs (isOf k) (tasksOf ns)).length c77), (78, .int .i64 (idxs (isOf k) (tasksOf ns)).length), (79, .int .i64 a), (86, .slice A86 (idxs (isOf i) (tasksOf ns)).length c86), (87, .int .i64 (idxs (isOf i) (tasksOf ns)).length), (88, .int .i64 b)]) (fun g => match g with | ⟨C, ⟨CA, cc⟩, b⟩ => b ≤ (idxs (isOf i) (tasksOf ns)).length ∧ C = ((((ns.mapIdx (nodeChans ns (tasksOf ns))).take i).flatten ++ ((ns[i].ins.mapIdx (chanIn ns (tasksOf ns) i ns[i])).take x).flatten) ++ ((idxs (isOf k) (tasksOf ns)).take a).flatMap (fun f => (idxs (isOf i) (tasksOf ns)).flatMap (chanTo (tasksOf ns) all x f))) ++ ((idxs (isOf i) (tasksOf ns)).take b).flatMap (chanTo (tasksOf ns) all x f) ∧ C.length ≤ 10000 * i + 2500 * x + 48 * a + b) (fun g => match g with | ⟨C, ⟨CA, cc⟩, b⟩ => [.box b1 [.slice (some jd) ns.length jc] 34, .box b2 [.slice none 0 0, .slice none 0 0] 42, (.box b3 [.slice TA (tasksOf ns).length tc, .slice CA C.length cc] 42), rowOf eChan (.slice CA C.length cc) 118 3 C, .box b8 (nodeCells ns[i] ((some ad2, c2), (A4, c4))) 31]) (fun g => match g with | ⟨C, ⟨CA, cc⟩, b⟩ => fun w => ((((((kNode.Row w (some jd) ns ∧ kTask.Row w TA (tasksOf ns)) ∧ Cells w (jd.add (i * 10)) (nodeCells ns[i] ((some ad2, c2), (A4, c4))) ∧ kInt.Row w (some ad2) ns[i].ins ∧ kExpr.Row w A4 ns[i].e.l) ∧ (Blk.box b7 [.int .i64 i] 3).holds w) ∧ (Blk.box b10 [.int .i64 k] 3).holds w) ∧ Cells w (jd.add (k * 10)) (nodeCells ns[k] ((A6, c6), (A9, c9))) ∧ kInt.Row w A6 ns[k].ins ∧ kExpr.Row w A9 ns[k].e.l) ∧ kInt.Row w (some ad77) (idxs (isOf k) (tasksOf ns))) ∧ kInt.Row w A86 (idxs (isOf i) (tasksOf ns))) (fun g => match g with | ⟨C, ⟨CA, cc⟩, b⟩ => (idxs (isOf i) (tasksOf ns)).length - b) ⟨C, (CA, cc), 0⟩ ⟨rfl, rfl, rfl, rfl, rfl, rfl, rfl, rfl, rfl, rfl, rfl, rfl, rfl, rfl, rfl, rfl, rfl, rfl, rfl, rfl, rfl, trivial⟩ ⟨Nat.zero_le _, by (try dsimp only); rw [List.take_zero, List.flatMap_nil, List.append_nil]; exact hC, by (try dsimp only); omega⟩ (fun w hw => hw) ?_
            rintro ⟨C, ⟨CA, cc⟩, b⟩ ⟨hb0, hC, hCl⟩
            dsimp only
            refine Wc.seq ?_
            refine Wc.region ?_
            refine Wl.lss rfl rfl rfl ?_
            refine Wl.nil ?_
            refine Wx.then_n ?_
            refine Wc.seq ?_
            refine Wc.condp rfl (fun h89 => ?_) (fun h89 => ?_)
            ·
              have hb : b < (idxs (isOf i) (tasksOf ns)).length := by omega
              have htl2 := idxs_len (isOf i) (tasksOf ns)
              have hts2 := flatMap_take' (chanTo (tasksOf ns) all x f) (idxs (isOf i) (tasksOf ns)) b hb
              obtain ⟨tt, htt, htj, _⟩ := idxs_in (List.getElem_mem hb)
              rw [htt] at hts2
              refine Wc.pure (p := ∃ ad, A86 = some ad) (fun w hw => hw.addr (fun w h => h.2) (by omega)) ?_
              rintro ⟨ad86, rfl⟩
              refine Wc.pure (p := ∃ ad, TA = some ad) (fun w hw => hw.addr (fun w h => h.1.1.1.1.1.1.2) (by omega)) ?_
              rintro ⟨tad, rfl⟩
              refine Wc.skip ?_
              refine Wx.then_n ?_
              refine Wc.seq ?_
              refine Wc.block ?_
              refine Wc.seq ?_
              refine Wc.region ?_
              refine Wl.idx Tryz.underlying24 t3 rfl rfl rfl hb ?_
              refine Wl.loadr (j := 0) (cs := eInt (idxs (isOf i) (tasksOf ns))[b]) t3 (fun w h => h.2.cells b hb) rfl rfl (Addr.add_zero' _).symm rfl ?_
              refine Wl.assign rfl rfl ?_
              refine Wl.nil ?_
              refine Wx.then_n ?_
              refine Wc.seq ?_
              rw [htt]
              refine Wc.draw mixed (by kernel_rfl) (fun w hw => hw.drew) ?_
              refine Wl.move rfl rfl ?_
              refine Wl.move rfl rfl ?_
              refine Wl.split 93 rfl (fun h93 => ?_) (fun h93 => ?_)
              ·
                refine Wl.skip rfl rfl ?_
                refine Wl.skip rfl rfl ?_
                refine Wl.skip rfl rfl ?_
                refine Wl.skip rfl rfl ?_
                refine Wl.skip rfl rfl ?_
                refine Wl.skip rfl rfl ?_
                refine Wl.skip rfl rfl ?_
                refine Wl.skip rfl rfl ?_
                refine Wl.skip rfl rfl ?_
                refine Wl.skip rfl rfl ?_
                refine Wl.skip rfl rfl ?_
                refine Wl.skip rfl rfl ?_
                refine Wl.skip rfl rfl ?_
                refine Wl.pick_t rfl rfl rfl ?_
                refine Wl.nilq ?_
                refine Wx.then_n ?_
                refine Wc.cond_t rfl ?_
                refine Wc.region ?_
                refine Wl.fld ⟨_, 1, none⟩ fl42_1 rfl rfl rfl ?_
                refine Wl.loadb 2 1 t40 rfl rfl rfl rfl ?_
                refine Wl.move rfl rfl ?_
                refine Wl.move rfl rfl ?_
                refine Wl.move rfl rfl ?_
                refine Wl.build (parts := _) [(0, _), (1, _), (2, _)] [.int .i64 f, .int .i64 tt, .int .i64 x] rfl rfl (fun w => run_build w _ _ _ (by kernel_rfl)) ?_
                refine Wl.slice1 Tryz.underlying40 t118 rfl rfl rfl rfl rfl rfl (fun b114 => ?_)
                refine Wl.app1e 3 5 ((⟨f, tt, x⟩ : Chan)) Tryz.underlying40 t118 rfl rfl rfl rfl rfl rfl rfl rfl rfl rfl rfl (by omega) (fun v115 => ?_)
                refine Wl.form 3 rfl (fun A115 c115 e115 hc115 _ => ?_)
                subst e115
                refine Wl.fld ⟨_, 1, none⟩ fl42_1 rfl rfl rfl ?_
                refine Wl.store 2 1 t40 rfl rfl rfl rfl rfl rfl rfl ?_
                refine Wl.nil ?_
                refine Wx.block_n ?_
                refine Wx.then_n ?_
                refine Wc.region ?_
                refine Wl.add rfl rfl rfl (by omega) ?_
                refine Wl.move rfl rfl ?_
                refine Wl.nil ?_
                have hct : chanTo (tasksOf ns) all x f tt = [⟨f, tt, x⟩] := by unfold chanTo; rw [if_pos (by rw [h93]; rfl)]
                exact Wx.againS ⟨C ++ [(⟨f, tt, x⟩ : Chan)], (A115, c115), b + 1⟩ (by (try dsimp only); omega) ⟨rfl, rfl, rfl, rfl, rfl, rfl, rfl, rfl, rfl, rfl, rfl, rfl, rfl, rfl, rfl, rfl, rfl, rfl, rfl, rfl, rfl, trivial⟩ ⟨hb, by (try dsimp only); rw [hts2, ← List.append_assoc, ← hC, hct], by (try dsimp only); rw [List.length_append, List.length_singleton]; omega⟩ (fun w hw => (hw.take 5).imp fun w h => h)
              ·
                refine Wl.fld ⟨_, 0, none⟩ fl42_0 rfl rfl rfl ?_
                refine Wl.loadb 2 0 t39 rfl rfl rfl rfl ?_
                refine Wl.move rfl rfl ?_
                refine Wl.idx Tryz.underlying39 t115 rfl rfl rfl hfj ?_
                refine Wl.fld _ fl115_1 rfl rfl rfl ?_
                refine Wl.loadr (j := 1) (cs := eTask (tasksOf ns)[f]) t3 (fun w h => h.1.1.1.1.1.1.2.cells f hfj) rfl rfl rfl rfl ?_
                refine Wl.fld ⟨_, 0, none⟩ fl42_0 rfl rfl rfl ?_
                refine Wl.loadb 2 0 t39 rfl rfl rfl rfl ?_
                refine Wl.move rfl rfl ?_
                refine Wl.idx Tryz.underlying39 t115 rfl rfl rfl htj ?_
                refine Wl.fld _ fl115_1 rfl rfl rfl ?_
                refine Wl.loadr (j := 1) (cs := eTask (tasksOf ns)[tt]) t3 (fun w h => h.1.1.1.1.1.1.2.cells tt htj) rfl rfl rfl rfl ?_
                refine Wl.eql rfl rfl rfl ?_
                refine Wl.pick_f rfl rfl rfl ?_
                refine Wl.nilq ?_
                refine Wx.then_n ?_
                refine Wc.condp rfl (fun h107 => ?_) (fun h107 => ?_)
                ·
                  refine Wc.region ?_
                  refine Wl.fld ⟨_, 1, none⟩ fl42_1 rfl rfl rfl ?_
                  refine Wl.loadb 2 1 t40 rfl rfl rfl rfl ?_
                  refine Wl.move rfl rfl ?_
                  refine Wl.move rfl rfl ?_
                  refine Wl.move rfl rfl ?_
                  refine Wl.build (parts := _) [(0, _), (1, _), (2, _)] [.int .i64 f, .int .i64 tt, .int .i64 x] rfl rfl (fun w => run_build w _ _ _ (by kernel_rfl)) ?_
                  refine Wl.slice1 Tryz.underlying40 t118 rfl rfl rfl rfl rfl rfl (fun b114 => ?_)
                  refine Wl.app1e 3 5 ((⟨f, tt, x⟩ : Chan)) Tryz.underlying40 t118 rfl rfl rfl rfl rfl rfl rfl rfl rfl rfl rfl (by omega) (fun v115 => ?_)
                  refine Wl.form 3 rfl (fun A115 c115 e115 hc115 _ => ?_)
                  subst e115
                  refine Wl.fld ⟨_, 1, none⟩ fl42_1 rfl rfl rfl ?_
                  refine Wl.store 2 1 t40 rfl rfl rfl rfl rfl rfl rfl ?_
                  refine Wl.nil ?_
                  refine Wx.block_n ?_
                  refine Wx.then_n ?_
                  refine Wc.region ?_
                  refine Wl.add rfl rfl rfl (by omega) ?_
                  refine Wl.move rfl rfl ?_
                  refine Wl.nil ?_
                  have hct : chanTo (tasksOf ns) all x f tt = [⟨f, tt, x⟩] := by unfold chanTo; rw [if_pos (by rw [h93, partAt_eq _ f hfj, partAt_eq _ tt htj, decide_eq_true (by assumption)]; rfl)]
                  exact Wx.againS ⟨C ++ [(⟨f, tt, x⟩ : Chan)], (A115, c115), b + 1⟩ (by (try dsimp only); omega) ⟨rfl, rfl, rfl, rfl, rfl, rfl, rfl, rfl, rfl, rfl, rfl, rfl, rfl, rfl, rfl, rfl, rfl, rfl, rfl, rfl, rfl, trivial⟩ ⟨hb, by (try dsimp only); rw [hts2, ← List.append_assoc, ← hC, hct], by (try dsimp only); rw [List.length_append, List.length_singleton]; omega⟩ (fun w hw => (hw.take 5).imp fun w h => h)
                ·
                  refine Wc.skip ?_
                  refine Wx.block_n ?_
                  refine Wx.then_n ?_
                  refine Wc.region ?_
                  refine Wl.add rfl rfl rfl (by omega) ?_
                  refine Wl.move rfl rfl ?_
                  refine Wl.nil ?_
                  have hct : chanTo (tasksOf ns) all x f tt = [] := by unfold chanTo; rw [if_neg (by rw [h93, partAt_eq _ f hfj, partAt_eq _ tt htj, decide_eq_false (by assumption)]; simp)]
                  exact Wx.againS ⟨C, (CA, cc), b + 1⟩ (by (try dsimp only); omega) ⟨rfl, rfl, rfl, rfl, rfl, rfl, rfl, rfl, rfl, rfl, rfl, rfl, rfl, rfl, rfl, rfl, rfl, rfl, rfl, rfl, rfl, trivial⟩ ⟨hb, by (try dsimp only); rw [hts2, ← List.append_assoc, ← hC, hct]; exact (List.append_nil _).symm, by (try dsimp only); omega⟩ (fun w hw => (hw.take 5).imp fun w h => h)
            ·
              refine Wc.exit ?_
              refine Wx.then_e ?_
              refine Wx.then_e ?_
              refine Wx.block_e ?_
              refine Wx.block_n ?_
              refine Wx.then_n ?_
              refine Wc.region ?_
              refine Wl.add rfl rfl rfl (by omega) ?_
              refine Wl.move rfl rfl ?_
              refine Wl.nil ?_
              obtain rfl : b = (idxs (isOf i) (tasksOf ns)).length := by omega
              rw [List.take_length] at hC
              have htl2 := idxs_len (isOf i) (tasksOf ns)
              exact Wx.againS ⟨C, (CA, cc), a + 1⟩ (by (try dsimp only); omega) ⟨rfl, rfl, rfl, rfl, rfl, rfl, rfl, rfl, rfl, rfl, rfl, rfl, rfl, rfl, rfl, rfl, rfl, trivial⟩ ⟨ha, by (try dsimp only); rw [hfs, ← List.append_assoc, hf]; exact hC, by (try dsimp only); omega⟩ (fun w hw => hw.imp fun w h => h.1)
          ·
            refine Wc.exit ?_
            refine Wx.then_e ?_
            refine Wx.then_e ?_
            refine Wx.block_e ?_
            refine Wx.block_n ?_
            refine Wx.then_n ?_
            refine Wc.region ?_
            refine Wl.add rfl rfl rfl (by omega) ?_
            refine Wl.move rfl rfl ?_
            refine Wl.nil ?_
            obtain rfl : a = (idxs (isOf k) (tasksOf ns)).length := by omega
            rw [List.take_length] at hC
            have hfl := idxs_len (isOf k) (tasksOf ns)
            exact Wx.againS ⟨C, (CA, cc), x + 1⟩ (by (try dsimp only); omega) ⟨rfl, rfl, rfl, rfl, rfl, rfl, rfl, rfl, rfl, rfl, rfl, trivial⟩ ⟨hx, by (try dsimp only); rw [hns, ← List.append_assoc]; unfold chanIn; rw [← hall]; exact hC, by (try dsimp only); omega⟩ (fun w hw => hw.imp fun w h => h.1.1.1)
      ·
        refine Wc.exit ?_
        refine Wx.then_e ?_
        refine Wx.then_e ?_
        refine Wx.block_e ?_
        refine Wx.block_n ?_
        refine Wx.then_n ?_
        refine Wc.region ?_
        refine Wl.add rfl rfl rfl (by omega) ?_
        refine Wl.move rfl rfl ?_
        refine Wl.nil ?_
        obtain rfl : x = ns[i].ins.length := by omega
        rw [mapIdx_all] at hC
        exact Wx.againS ⟨C, (CA, cc), i + 1⟩ (by (try dsimp only); omega) ⟨rfl, rfl, rfl, rfl, rfl, rfl, trivial⟩ ⟨hi, by (try dsimp only); rw [hcs]; exact hC, by (try dsimp only); omega⟩ (fun w hw => (hw.take 4).imp fun w h => h.1.1)
    ·
      obtain rfl : i = ns.length := by omega
      rw [mapIdx_all] at hC
      obtain rfl : C = chansOf ns := hC
      refine Wc.exit ?_
      refine Wx.then_e ?_
      refine Wx.then_e ?_
      refine Wx.block_e ?_
      refine Wx.then_n ?_
      refine Wc.seq ?_
      refine Wc.region ?_
      refine Wl.loadbs 2 0 t42 rfl rfl rfl rfl rfl ?_
      refine Wl.storew 1 t42 rfl rfl rfl rfl rfl rfl rfl ?_
      refine Wl.nil ?_
      refine Wx.then_n ?_
      refine Wc.ret ?_
      refine Wx.form 3 rfl (fun A1 c1 e1 hc1 _ => ?_)
      injection e1 with e1 e2 e3
      subst e1 e3
      exact Wx.retPC 1 ((⟨(TA, tc), (CA, cc)⟩) : (Option Addr × Nat) × (Option Addr × Nat)) t42 rfl rfl rfl rfl rfl ⟨hct, hc1⟩ (fun w hw => ((hw.freeze 3 rfl).take 0).imp (fun w h => ⟨h.1.2, row_holds h.2⟩))

end Go.Proofs.YtkffjbijamfnoaaGreat
