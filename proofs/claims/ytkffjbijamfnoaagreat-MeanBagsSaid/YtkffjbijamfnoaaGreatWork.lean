/-
  What is read, and what comes out of a node.
-/
import Derived.Test.YtkffjbijamfnoaaGreatHlRet
import Derived.Test.YtkffjbijamfnoaaGreatPanes
set_option linter.unusedVariables false
set_option linter.unusedSimpArgs false
namespace Go.Proofs.YtkffjbijamfnoaaGreat
open Go.RowKit

theorem offOf_le (offs : List (List Int)) (i p n : Nat) : offOf offs i p n ≤ n := by
  unfold offOf; split <;> omega
theorem offOf_in (offs : List (List Int)) (i p n : Nat) (hi : i < offs.length) (hp : p < offs[i].length) : min (max offs[i][p] 0) (n : Int) = (offOf offs i p n : Nat) := by
  unfold offOf
  rw [List.getElem?_eq_getElem hi, Option.bind_some, List.getElem?_eq_getElem hp]
  dsimp only; omega
theorem offOf_out (offs : List (List Int)) (i p n : Nat) (h : ∀ hi : i < offs.length, ¬ p < offs[i].length) : (n : Int) = (offOf offs i p n : Nat) := by
  unfold offOf
  by_cases hi : i < offs.length
  · rw [List.getElem?_eq_getElem hi, Option.bind_some, List.getElem?_eq_none (by have := h hi; omega)]
  · rw [List.getElem?_eq_none (by omega)]; rfl
theorem readPart_take (offs : List (List Int)) (i p : Nat) (l : List Item) : (offOf offs i p l.length) - 0 = (readPart offs i p l).length := by
  unfold readPart; rw [List.length_take]; have := offOf_le offs i p l.length; omega

theorem read_calls (m : Nat → Prop) (A O : Option Addr) (c oc : Nat) (l : Logs) (offs : List (List Int)) (i p : Nat) (hi : i < l.length) (hp : p < l[i].length) (w : World) (hr : Ro m w (fun w => kParts.Row w A l ∧ (Kn.slice kInt).Row w O offs)) :
    Calls Tryz.prog 92 #[.slice A l.length c, .slice O offs.length oc, .int .i64 i, .int .i64 p] w (PostR m w kItem (readPart offs i p l[i][p])) := by
  refine calls_of_Wc (args := [.slice A l.length c, .slice O offs.length oc, .int .i64 i, .int .i64 p]) 46 Tryz.func92 rfl rfl (by simp) ?_
  refine Wc.start hr ?_
  refine Wc.seq ?_
  refine Wc.region ?_
  refine Wl.assign rfl rfl ?_
  refine Wl.nil ?_
  refine Wx.then_n ?_
  refine Wc.seq ?_
  refine Wc.pure (p := ∃ ad, A = some ad) (fun w hw => hw.addr (fun w h => h.1) (by omega)) ?_
  rintro ⟨ad, rfl⟩
  refine Wc.exS (fun w hw => hw.slice_get (fun w h => h.1) i hi) ?_
  rintro ⟨A6, c6⟩ hc6
  dsimp only at hc6 ⊢
  refine Wc.pure (p := ∃ ad, A6 = some ad) (fun w hw => hw.addr (fun w h => h.2.2) (by omega)) ?_
  rintro ⟨ad6, rfl⟩
  refine Wc.exS (fun w hw => hw.slice_get (fun w h => h.2.2) p hp) ?_
  rintro ⟨A9, c9⟩ hc9
  dsimp only at hc9 ⊢
  refine Wc.region ?_
  refine Wl.move rfl rfl ?_
  refine Wl.move rfl rfl ?_
  refine Wl.idx Tryz.underlying38 t36 rfl rfl rfl hi ?_
  refine Wl.loadr (j := 0) (cs := [.slice (some ad6) l[i].length c6]) t36 (fun w h => h.1.2.1) rfl rfl (Addr.add_zero' _).symm rfl ?_
  refine Wl.move rfl rfl ?_
  refine Wl.idx Tryz.underlying36 t22 rfl rfl rfl hp ?_
  refine Wl.loadr (j := 0) (cs := [.slice A9 l[i][p].length c9]) t22 (fun w h => h.2.1) rfl rfl (Addr.add_zero' _).symm rfl ?_
  refine Wl.assign rfl rfl ?_
  refine Wl.nil ?_
  refine Wx.then_n ?_
  refine Wc.seq ?_
  refine Wc.region ?_
  refine Wl.move rfl rfl ?_
  refine Wl.len Tryz.underlying22 rfl rfl ?_
  refine Wl.assign rfl rfl ?_
  refine Wl.nil ?_
  refine Wx.then_n ?_
  refine Wc.seq ?_
  refine Wc.seq ?_
  refine Wc.region ?_
  refine Wl.move rfl rfl ?_
  refine Wl.move rfl rfl ?_
  refine Wl.len Tryz.underlying84 rfl rfl ?_
  refine Wl.lss rfl rfl rfl ?_
  refine Wl.move rfl rfl ?_
  refine Wl.splitp 24 rfl (fun h24 => ?_) (fun h24 => ?_)
  ·
    refine Wl.pure (p := ∃ ad, O = some ad) (fun w hw => hw.addr (fun w h => h.1.1.2) (by omega)) ?_
    rintro ⟨ad8, rfl⟩
    refine Wl.exS (fun w hw => hw.slice_get (fun w h => h.1.1.2) i (by omega)) ?_
    rintro ⟨A10, c10⟩ hc10
    dsimp only at hc10 ⊢
    refine Wl.move rfl rfl ?_
    refine Wl.move rfl rfl ?_
    refine Wl.move rfl rfl ?_
    refine Wl.idx Tryz.underlying84 t24 rfl rfl rfl (by omega) ?_
    refine Wl.loadr (j := 0) (cs := [.slice A10 offs[i].length c10]) t24 (fun w h => h.2.1) rfl rfl (Addr.add_zero' _).symm rfl ?_
    refine Wl.len Tryz.underlying24 rfl rfl ?_
    refine Wl.lss rfl rfl rfl ?_
    refine Wl.pick_t rfl rfl rfl ?_
    refine Wl.nil ?_
    refine Wx.then_n ?_
    refine Wc.condp rfl (fun h32 => ?_) (fun h32 => ?_)
    ·
      refine Wc.pure (p := ∃ ad, A10 = some ad) (fun w hw => hw.addr (fun w h => h.2.2) (by omega)) ?_
      rintro ⟨ad10, rfl⟩
      refine Wc.region ?_
      refine Wl.move rfl rfl ?_
      refine Wl.move rfl rfl ?_
      refine Wl.idx Tryz.underlying84 t24 rfl rfl rfl (by omega) ?_
      refine Wl.loadr (j := 0) (cs := [.slice (some ad10) offs[i].length c10]) t24 (fun w h => h.2.1) rfl rfl (Addr.add_zero' _).symm rfl ?_
      refine Wl.move rfl rfl ?_
      refine Wl.idx Tryz.underlying24 t3 rfl rfl rfl (by omega) ?_
      refine Wl.loadr (j := 0) (cs := eInt offs[i][p]) t3 (fun w h => h.2.2.cells p (by omega)) rfl rfl (Addr.add_zero' _).symm rfl ?_
      refine Wl.maxi rfl rfl rfl ?_
      refine Wl.move rfl rfl ?_
      refine Wl.mini rfl rfl rfl ?_
      refine Wl.assign rfl rfl ?_
      refine Wl.nil ?_
      refine Wx.then_n ?_
      refine Wc.seq ?_
      have ho : min (max offs[i][p] 0) (l[i][p].length : Int) = (offOf offs i p l[i][p].length : Nat) := offOf_in offs i p _ (by omega) (by omega)
      have hk := offOf_le offs i p l[i][p].length
      rw [ho]
      refine Wc.region ?_
      refine Wl.move rfl rfl ?_
      refine Wl.move rfl rfl ?_
      refine Wl.resl 0 (offOf offs i p l[i][p].length) Tryz.underlying22 t100 rfl rfl rfl (Nat.zero_le _) (by omega) rfl ?_
      refine Wl.assign rfl rfl ?_
      refine Wl.nil ?_
      refine Wx.then_n ?_
      refine Wc.ret ?_
      exact Wx.retRR (sliceAddr A9 0 c9 5) c9 rfl (congrArg (fun z => some (Value.slice _ z _)) (readPart_take offs i p l[i][p])) (by have := readPart_len offs i p l[i][p]; omega) (fun w h => by have := Kn.Row.part (dk := kItem) (h.1.2.2) 0 (offOf offs i p l[i][p].length) (Nat.zero_le _) hk hc9; rw [List.drop_zero] at this; exact this)
    ·
      refine Wc.skip ?_
      refine Wx.then_n ?_
      refine Wc.seq ?_
      have ho : (l[i][p].length : Int) = (offOf offs i p l[i][p].length : Nat) := offOf_out offs i p _ (fun hi => by omega)
      have hk := offOf_le offs i p l[i][p].length
      rw [ho]
      refine Wc.region ?_
      refine Wl.move rfl rfl ?_
      refine Wl.move rfl rfl ?_
      refine Wl.resl 0 (offOf offs i p l[i][p].length) Tryz.underlying22 t100 rfl rfl rfl (Nat.zero_le _) (by omega) rfl ?_
      refine Wl.assign rfl rfl ?_
      refine Wl.nil ?_
      refine Wx.then_n ?_
      refine Wc.ret ?_
      exact Wx.retRR (sliceAddr A9 0 c9 5) c9 rfl (congrArg (fun z => some (Value.slice _ z _)) (readPart_take offs i p l[i][p])) (by have := readPart_len offs i p l[i][p]; omega) (fun w h => by have := Kn.Row.part (dk := kItem) (h.1.2.2) 0 (offOf offs i p l[i][p].length) (Nat.zero_le _) hk hc9; rw [List.drop_zero] at this; exact this)
  ·
    refine Wl.skip rfl rfl ?_
    refine Wl.skip rfl rfl ?_
    refine Wl.skip rfl rfl ?_
    refine Wl.skip rfl rfl ?_
    refine Wl.skip rfl rfl ?_
    refine Wl.skip rfl rfl ?_
    refine Wl.skip rfl rfl ?_
    refine Wl.pick_f rfl rfl rfl ?_
    refine Wl.nil ?_
    refine Wx.then_n ?_
    refine Wc.cond_f rfl ?_
    refine Wc.skip ?_
    refine Wx.then_n ?_
    refine Wc.seq ?_
    have ho : (l[i][p].length : Int) = (offOf offs i p l[i][p].length : Nat) := offOf_out offs i p _ (fun hi => by omega)
    have hk := offOf_le offs i p l[i][p].length
    rw [ho]
    refine Wc.region ?_
    refine Wl.move rfl rfl ?_
    refine Wl.move rfl rfl ?_
    refine Wl.resl 0 (offOf offs i p l[i][p].length) Tryz.underlying22 t100 rfl rfl rfl (Nat.zero_le _) (by omega) rfl ?_
    refine Wl.assign rfl rfl ?_
    refine Wl.nil ?_
    refine Wx.then_n ?_
    refine Wc.ret ?_
    exact Wx.retRR (sliceAddr A9 0 c9 5) c9 rfl (congrArg (fun z => some (Value.slice _ z _)) (readPart_take offs i p l[i][p])) (by have := readPart_len offs i p l[i][p]; omega) (fun w h => by have := Kn.Row.part (dk := kItem) (h.2.2) 0 (offOf offs i p l[i][p].length) (Nat.zero_le _) hk hc9; rw [List.drop_zero] at this; exact this)

theorem min_calls (m : Nat → Prop) (A : Option Addr) (c : Nat) (l : List Int) (hl : 0 < l.length) (w : World) (hr : Ro m w (fun w => kInt.Row w A l)) (hl2 : l.length ≤ 4294967296) :
    Calls Tryz.prog 113 #[.slice A l.length c] w (PostV m w (.int .i64 (minL l))) := by
  refine calls_of_Wc (args := [.slice A l.length c]) 25 Tryz.func113 rfl rfl (by simp) ?_
  refine Wc.start hr ?_
  refine Wc.seq ?_
  refine Wc.region ?_
  refine Wl.assign rfl rfl ?_
  refine Wl.nil ?_
  refine Wx.then_n ?_
  refine Wc.seq ?_
  refine Wc.seq ?_
  refine Wc.region ?_
  refine Wl.move rfl rfl ?_
  refine Wl.len Tryz.underlying52 rfl rfl ?_
  refine Wl.lss rfl rfl rfl ?_
  refine Wl.nil ?_
  refine Wx.then_n ?_
  refine Wc.cond_f (congrArg (fun z => some (Value.bool z)) (decide_eq_false (by omega))) ?_
  refine Wc.skip ?_
  refine Wx.then_n ?_
  refine Wc.seq ?_
  refine Wc.pure (p := ∃ ad, A = some ad) (fun w hw => hw.addr (fun w h => h) (by omega)) ?_
  rintro ⟨ad, rfl⟩
  refine Wc.region ?_
  refine Wl.move rfl rfl ?_
  refine Wl.idx (j := 0) Tryz.underlying52 t2 rfl rfl rfl hl ?_
  refine Wl.loadr (j := 0) (cs := eInt l[0]) t2 (fun w h => h.cells 0 hl) rfl rfl (Addr.add_zero' _).symm rfl ?_
  refine Wl.assign rfl rfl ?_
  refine Wl.nil ?_
  refine Wx.then_n ?_
  refine Wc.seq ?_
  refine Wc.seq ?_
  refine Wc.region ?_
  refine Wl.assign rfl rfl ?_
  refine Wl.nil ?_
  refine Wx.then_n ?_
  refine Wc.block ?_
  refine Wc.loopS (G := Nat) (fun g => match g with | k => [(0, .slice (some ad) l.length c), (3, .int .i64 (minL (l.take k))), (4, .int .i64 k)]) (fun g => match g with | k => 1 ≤ k ∧ k ≤ l.length) (fun g => match g with | k => []) (fun g => match g with | k => fun w => kInt.Row w (some ad) l) (fun g => match g with | k => l.length - k) 1 ⟨rfl, congrArg (fun z => some (Value.int .i64 z)) (by cases l with | nil => simp at hl | cons x xs => rfl), rfl, trivial⟩ ⟨Nat.le_refl _, hl⟩ (fun w hw => hw) ?_
  rintro k ⟨hk1, hk0⟩
  dsimp only
  refine Wc.seq ?_
  refine Wc.seq ?_
  refine Wc.region ?_
  refine Wl.move rfl rfl ?_
  refine Wl.move rfl rfl ?_
  refine Wl.len Tryz.underlying52 rfl rfl ?_
  refine Wl.lss rfl rfl rfl ?_
  refine Wl.nil ?_
  refine Wx.then_n ?_
  refine Wc.condp rfl (fun h15 => ?_) (fun h15 => ?_)
  ·
    have hk : k < l.length := by omega
    refine Wc.skip ?_
    refine Wx.then_n ?_
    refine Wc.seq ?_
    refine Wc.block ?_
    refine Wc.region ?_
    refine Wl.move rfl rfl ?_
    refine Wl.move rfl rfl ?_
    refine Wl.move rfl rfl ?_
    refine Wl.idx Tryz.underlying52 t2 rfl rfl rfl hk ?_
    refine Wl.loadr (j := 0) (cs := eInt l[k]) t2 (fun w h => h.cells k hk) rfl rfl (Addr.add_zero' _).symm rfl ?_
    refine Wl.mini rfl rfl rfl ?_
    refine Wl.assign rfl rfl ?_
    refine Wl.nil ?_
    refine Wx.block_n ?_
    refine Wx.then_n ?_
    refine Wc.region ?_
    refine Wl.move rfl rfl ?_
    refine Wl.add rfl rfl rfl (by omega) ?_
    refine Wl.assign rfl rfl ?_
    refine Wl.nil ?_
    exact Wx.againS (k + 1) (by omega) ⟨rfl, congrArg (fun z => some (Value.int .i64 z)) (minL_take l k (by omega) hk).symm, rfl, trivial⟩ ⟨by omega, hk⟩ (fun w hw => hw)
  ·
    refine Wc.exit ?_
    refine Wx.then_e ?_
    refine Wx.then_e ?_
    refine Wx.block_e ?_
    refine Wx.then_n ?_
    refine Wc.seq ?_
    refine Wc.region ?_
    refine Wl.move rfl rfl ?_
    refine Wl.assign rfl rfl ?_
    refine Wl.nil ?_
    refine Wx.then_n ?_
    refine Wc.ret ?_
    obtain rfl : k = l.length := by omega
    exact Wx.retI rfl rfl (by rw [List.take_length])

theorem ended_calls (m : Nat → Prop) (J : Option Addr) (jc : Nat) (ns : List Node) (w : World) (hr : Ro m w (fun w => kNode.Row w J ns)) (hjc : ns.length ≤ jc) (hn : ns.length ≤ 4294967296) :
    Calls Tryz.prog 83 #[.agg #[.slice J ns.length jc]] w (PostR m w (Kn.slice kInt) (List.replicate ns.length [maxMark])) := by
  refine calls_of_Wc (args := [.agg #[.slice J ns.length jc]]) 15 Tryz.func83 rfl rfl (by simp) ?_
  refine Wc.start hr ?_
  refine Wc.seq ?_
  refine Wc.region ?_
  refine Wl.box rfl rfl rfl (fun b1 => ?_)
  refine Wl.assign rfl rfl ?_
  refine Wl.nil ?_
  refine Wx.then_n ?_
  refine Wc.seq ?_
  refine Wc.region ?_
  refine Wl.assign rfl rfl ?_
  refine Wl.nil ?_
  refine Wx.then_n ?_
  refine Wc.seq ?_
  refine Wc.seq ?_
  refine Wc.region ?_
  refine Wl.fld ⟨_, 0, none⟩ fl34_0 rfl rfl rfl ?_
  refine Wl.loadb 0 0 t32 rfl rfl rfl rfl ?_
  refine Wl.len Tryz.underlying32 rfl rfl ?_
  refine Wl.move rfl rfl ?_
  refine Wl.nil ?_
  refine Wx.then_n ?_
  refine Wc.block ?_
  refine Wc.loopS (G := Value × List Sl × Nat) (fun g => match g with | ⟨v, ps, k⟩ => [(3, v), (6, .int .i64 ns.length), (7, .int .i64 k)]) (fun g => match g with | ⟨v, ps, k⟩ => k ≤ ns.length ∧ ps.length = k) (fun g => match g with | ⟨v, ps, k⟩ => [.box b1 [.slice J ns.length jc] 34, rowOf eSl v 52 1 ps]) (fun g => match g with | ⟨v, ps, k⟩ => fun w => Inner kInt w ps (List.replicate k [maxMark])) (fun g => match g with | ⟨v, ps, k⟩ => ns.length - k) ⟨.slice none 0 0, [], 0⟩ ⟨rfl, rfl, rfl, trivial⟩ ⟨Nat.zero_le _, rfl⟩ (fun w hw => (hw.nil 52 1).imp (fun w h => Inner.nils kInt w 0)) ?_
  rintro ⟨v, ps, k⟩ ⟨hk0, hps⟩
  dsimp only
  refine Wc.seq ?_
  refine Wc.region ?_
  refine Wl.lss rfl rfl rfl ?_
  refine Wl.nil ?_
  refine Wx.then_n ?_
  refine Wc.seq ?_
  refine Wc.condp rfl (fun h8 => ?_) (fun h8 => ?_)
  ·
    refine Wc.skip ?_
    refine Wx.then_n ?_
    refine Wc.seq ?_
    refine Wc.block ?_
    refine Wc.region ?_
    refine Wl.move rfl rfl ?_
    refine Wl.slice1 Tryz.underlying52 t2 rfl rfl rfl rfl rfl rfl (fun b10 => ?_)
    refine Wl.slice1 Tryz.underlying85 t52 rfl rfl rfl rfl rfl rfl (fun b11 => ?_)
    refine Wl.app1e 1 3 (((some ⟨b10, 0, none⟩, 1, 1) : Sl)) Tryz.underlying85 t52 rfl rfl rfl rfl rfl rfl rfl rfl rfl rfl rfl (by omega) (fun v12 => ?_)
    refine Wl.assign rfl rfl ?_
    refine Wl.nil ?_
    refine Wx.block_n ?_
    refine Wx.then_n ?_
    refine Wc.region ?_
    refine Wl.add rfl rfl rfl (by omega) ?_
    refine Wl.move rfl rfl ?_
    refine Wl.nil ?_
    exact Wx.againS (⟨v12, ps ++ [((some ⟨b10, 0, none⟩, 1, 1) : Sl)], k + 1⟩ : Value × List Sl × Nat) (by (try dsimp only); omega) ⟨rfl, rfl, rfl, trivial⟩ ⟨by (try dsimp only); omega, by (try dsimp only); rw [List.length_append, hps]; rfl⟩ (fun w hw => (((hw.box_row (enc := eInt) (sz := 1) 2 maxMark rfl rfl rfl).freeze 2 rfl).take 2).imp (fun w h => by (try dsimp only); rw [List.replicate_succ']; exact h.1.snoc _ _ ⟨rfl, Nat.le_refl _, row_holds h.2⟩))
  ·
    refine Wc.exit ?_
    refine Wx.then_e ?_
    refine Wx.then_e ?_
    refine Wx.block_e ?_
    refine Wx.then_n ?_
    refine Wc.seq ?_
    refine Wc.region ?_
    refine Wl.move rfl rfl ?_
    refine Wl.assign rfl rfl ?_
    refine Wl.nil ?_
    refine Wx.then_n ?_
    refine Wc.ret ?_
    obtain rfl : k = ns.length := by omega
    exact Wx.retRS (ps := ps) rfl rfl (fun w hw => hw.drop 0)

def rightOk (ns : List Node) (l : Logs) : Bool := decide (jobErr ns = 0) && decide (logsErr ns l = 0)

theorem right14_calls (m : Nat → Prop) (J A : Option Addr) (jc c : Nat) (ns : List Node) (l : Logs) (w : World) (hr : Ro m w (fun w => kNode.Row w J ns ∧ kParts.Row w A l)) (hjc : ns.length ≤ jc) (hc : l.length ≤ c) (hs : ∀ x ∈ ns, x.e.count ≤ 1099511627776) :
    Calls Tryz.prog 81 #[.agg #[.slice J ns.length jc], .slice A l.length c] w (PostV m w (.bool (rightOk ns l))) := by
  refine calls_of_Wc (args := [.agg #[.slice J ns.length jc], .slice A l.length c]) 14 Tryz.func81 rfl rfl (by simp) ?_
  refine Wc.start hr ?_
  refine Wc.seq ?_
  refine Wc.region ?_
  refine Wl.box rfl rfl rfl (fun b2 => ?_)
  refine Wl.assign rfl rfl ?_
  refine Wl.nil ?_
  refine Wx.then_n ?_
  refine Wc.seq ?_
  refine Wc.region ?_
  refine Wl.loadbw 0 t34 rfl rfl rfl rfl ?_
  refine Wl.callV [_] Tryz.func124 rfl rfl rfl rfl (fun w hw => jobcheck_calls _ J jc ns w (hw.read fun w h => h.1) hjc hs) ?_
  refine Wl.eql rfl rfl rfl ?_
  refine Wl.move rfl rfl ?_
  refine Wl.splitp 8 rfl (fun h8 => ?_) (fun h8 => ?_)
  ·
    refine Wl.loadbw 0 t34 rfl rfl rfl rfl ?_
    refine Wl.move rfl rfl ?_
    refine Wl.callV [_, _] Tryz.func125 rfl rfl rfl rfl (fun w hw => joblogs_calls _ J A jc c ns l w (hw.read fun w h => h) hjc hc) ?_
    refine Wl.eql rfl rfl rfl ?_
    refine Wl.pick_t rfl rfl rfl ?_
    refine Wl.assign rfl rfl ?_
    refine Wl.nil ?_
    refine Wx.then_n ?_
    refine Wc.ret ?_
    exact Wx.retB rfl rfl (by unfold rightOk; rw [decide_eq_true h8]; rfl)
  ·
    refine Wl.skip rfl rfl ?_
    refine Wl.skip rfl rfl ?_
    refine Wl.skip rfl rfl ?_
    refine Wl.skip rfl rfl ?_
    refine Wl.pick_f rfl rfl rfl ?_
    refine Wl.assign rfl rfl ?_
    refine Wl.nil ?_
    refine Wx.then_n ?_
    refine Wc.ret ?_
    exact Wx.retB rfl rfl (by unfold rightOk; rw [decide_eq_false h8]; rfl)

end Go.Proofs.YtkffjbijamfnoaaGreat
