/-
  How two records, two panes compare.
-/
import Derived.Test.YtkffjbijamfnoaaGreatHlMore
import Derived.Test.YtkffjbijamfnoaaGreatSymP
set_option linter.unusedVariables false
set_option linter.unusedSimpArgs false
namespace Go.Proofs.YtkffjbijamfnoaaGreat
open Go.RowKit

def cmp3 (a b : Int) : Int := if a < b then -1 else if b < a then 1 else 0
def orOf (l : List Int) : Int := (l.find? (fun x => decide (x ≠ 0))).getD 0
def cmpR (x y : Rec) : Int := orOf [cmp3 x.key y.key, cmp3 x.time y.time, cmp3 x.val y.val]
def cmpP (x y : Pane) : Int := orOf [cmp3 x.key y.key, cmp3 x.span.frm y.span.frm, cmp3 x.span.to y.span.to, cmp3 x.acc y.acc]
theorem cmp3_cases (a b : Int) : (cmp3 a b = -1 ∧ a < b) ∨ (cmp3 a b = 1 ∧ b < a) ∨ (cmp3 a b = 0 ∧ a = b) := by unfold cmp3; (repeat' split) <;> omega
theorem orOf_cons (x : Int) (l : List Int) : orOf (x :: l) = if x ≠ 0 then x else orOf l := by
  unfold orOf
  rw [List.find?_cons]
  by_cases h : x = 0 <;> simp [h]
theorem orOf_nil : orOf [] = 0 := rfl
theorem lex_step (a b : Int) (l : List Int) : decide (orOf (cmp3 a b :: l) < 0) = if a ≠ b then decide (a < b) else decide (orOf l < 0) := by
  rw [orOf_cons]
  rcases cmp3_cases a b with ⟨h1, h2⟩ | ⟨h1, h2⟩ | ⟨h1, h2⟩ <;> rw [h1]
  · rw [if_pos (by omega), if_pos (by omega), decide_eq_true h2]; rfl
  · rw [if_pos (by omega), if_pos (by omega), decide_eq_false (show ¬ (1 : Int) < 0 by omega), decide_eq_false (show ¬ a < b by omega)]
  · rw [if_neg (by omega), if_neg (by omega)]
theorem lex_end (a b : Int) : decide (orOf [cmp3 a b] < 0) = decide (a < b) := by
  rw [lex_step]
  split
  · rfl
  · rw [orOf_nil, decide_eq_false (by omega), decide_eq_false (by omega)]
theorem cmpR_less (x y : Rec) : decide (cmpR x y < 0) = lessR x y := by
  unfold cmpR lessR
  rw [lex_step, lex_step, lex_end]
theorem cmpP_less (x y : Pane) : decide (cmpP x y < 0) = lessP x y := by
  unfold cmpP lessP
  rw [lex_step, lex_step, lex_step, lex_end]
theorem row_of_cells {α : Type} {enc : α → List Value} {sz : Nat} {hl : ∀ x, (enc x).length = sz} {h1 : ∀ x, (enc x).all (·.oneCell') = true} {hp : 0 < sz} {w : World} {ad : Addr} {xs : List α} (h : Cells w ad (xs.flatMap enc)) (hn : xs.length ≤ 9223372036854775807) : (Kn.pure enc sz hl h1 hp).Row w (some ad) xs :=
  ⟨hn, fun _ => ⟨ad, rfl, fun j x hj => ⟨enc x, rfl, by
    have := h.part (j * sz) sz
    rwa [flat_part enc sz hl xs j x hj] at this⟩⟩⟩

theorem isnan_calls (x : Int) (w : World) :
    Calls Tryz.prog 142 #[.int .i64 x] w (fun e w' => e = .returned (.bool false) ∧ w' = w) := by
  refine calls_of_Wc (args := [.int .i64 x]) 6 Tryz.func142 rfl rfl (by simp) ?_
  skip
  refine Wc.seq ?_
  refine Wc.region ?_
  refine Wl.assign rfl rfl ?_
  refine Wl.nil ?_
  refine Wx.then_n ?_
  refine Wc.seq ?_
  refine Wc.region ?_
  refine Wl.move rfl rfl ?_
  refine Wl.move rfl rfl ?_
  refine Wl.neq rfl rfl rfl ?_
  refine Wl.assign rfl rfl ?_
  refine Wl.nil ?_
  refine Wx.then_n ?_
  refine Wc.ret ?_
  exact Wx.body_ret _ rfl rfl (fun w hw => ⟨by first | rfl | simp, hw⟩)

theorem compare_calls (x y : Int) (w : World) :
    Calls Tryz.prog 100 #[.int .i64 x, .int .i64 y] w (fun e w' => e = .returned (.int .i64 (cmp3 x y)) ∧ w' = w) := by
  refine calls_of_Wc (args := [.int .i64 x, .int .i64 y]) 20 Tryz.func100 rfl rfl (by simp) ?_
  skip
  refine Wc.seq ?_
  refine Wc.region ?_
  refine Wl.assign rfl rfl ?_
  refine Wl.nil ?_
  refine Wx.then_n ?_
  refine Wc.seq ?_
  refine Wc.region ?_
  refine Wl.move rfl rfl ?_
  refine Wl.callE [_] Tryz.func142 rfl rfl rfl rfl (fun w hw => isnan_calls _ w) ?_
  refine Wl.assign rfl rfl ?_
  refine Wl.nil ?_
  refine Wx.then_n ?_
  refine Wc.seq ?_
  refine Wc.region ?_
  refine Wl.move rfl rfl ?_
  refine Wl.callE [_] Tryz.func142 rfl rfl rfl rfl (fun w hw => isnan_calls _ w) ?_
  refine Wl.assign rfl rfl ?_
  refine Wl.nil ?_
  refine Wx.then_n ?_
  refine Wc.seq ?_
  refine Wc.seq ?_
  refine Wc.region ?_
  refine Wl.move rfl rfl ?_
  refine Wl.nil ?_
  refine Wx.then_n ?_
  refine Wc.cond_f rfl ?_
  refine Wc.skip ?_
  refine Wx.then_n ?_
  refine Wc.seq ?_
  refine Wc.seq ?_
  refine Wc.region ?_
  refine Wl.move rfl rfl ?_
  refine Wl.nil ?_
  refine Wx.then_n ?_
  refine Wc.cond_f rfl ?_
  refine Wc.skip ?_
  refine Wx.then_n ?_
  refine Wc.seq ?_
  refine Wc.seq ?_
  refine Wc.region ?_
  refine Wl.move rfl rfl ?_
  refine Wl.move rfl rfl ?_
  refine Wl.lss rfl rfl rfl ?_
  refine Wl.nil ?_
  refine Wx.then_n ?_
  refine Wc.condp rfl (fun h16 => ?_) (fun h16 => ?_)
  ·
    refine Wc.seq ?_
    refine Wc.region ?_
    refine Wl.assign rfl rfl ?_
    refine Wl.nil ?_
    refine Wx.then_n ?_
    refine Wc.ret ?_
    refine Wx.then_r ?_
    exact Wx.body_ret _ rfl rfl (fun w hw => ⟨by simp [cmp3, *], hw⟩)
  ·
    refine Wc.skip ?_
    refine Wx.then_n ?_
    refine Wc.seq ?_
    refine Wc.seq ?_
    refine Wc.region ?_
    refine Wl.move rfl rfl ?_
    refine Wl.move rfl rfl ?_
    refine Wl.gtr rfl rfl rfl ?_
    refine Wl.nil ?_
    refine Wx.then_n ?_
    refine Wc.condp rfl (fun h19 => ?_) (fun h19 => ?_)
    ·
      refine Wc.seq ?_
      refine Wc.region ?_
      refine Wl.assign rfl rfl ?_
      refine Wl.nil ?_
      refine Wx.then_n ?_
      refine Wc.ret ?_
      refine Wx.then_r ?_
      exact Wx.body_ret _ rfl rfl (fun w hw => ⟨by simp [cmp3, *], hw⟩)
    ·
      refine Wc.skip ?_
      refine Wx.then_n ?_
      refine Wc.seq ?_
      refine Wc.region ?_
      refine Wl.assign rfl rfl ?_
      refine Wl.nil ?_
      refine Wx.then_n ?_
      refine Wc.ret ?_
      exact Wx.body_ret _ rfl rfl (fun w hw => ⟨by simp [cmp3, *], hw⟩)

theorem or_calls (ad : Addr) (c : Nat) (l : List Int) (w : World) (hr : kInt.Row w (some ad) l) :
    Calls Tryz.prog 99 #[.slice (some ad) l.length c] w (fun e w' => e = .returned (.int .i64 (orOf l)) ∧ w' = w) := by
  have hlen := hr.1
  refine calls_of_Wc (args := [.slice (some ad) l.length c]) 18 Tryz.func99 rfl rfl (by simp) ?_
  skip
  refine Wc.seq ?_
  refine Wc.region ?_
  refine Wl.assign rfl rfl ?_
  refine Wl.nil ?_
  refine Wx.then_n ?_
  refine Wc.seq ?_
  refine Wc.region ?_
  refine Wl.assign rfl rfl ?_
  refine Wl.nil ?_
  refine Wx.then_n ?_
  refine Wc.seq ?_
  refine Wc.seq ?_
  refine Wc.region ?_
  refine Wl.move rfl rfl ?_
  refine Wl.len Tryz.underlying24 rfl rfl ?_
  refine Wl.move rfl rfl ?_
  refine Wl.nil ?_
  refine Wx.then_n ?_
  refine Wc.block ?_
  refine Wc.loop (G := Nat) (fun g => match g with | k => [(3, .int .i64 0), (6, .slice (some ad) l.length c), (7, .int .i64 l.length), (8, .int .i64 k)]) (fun g => match g with | k => fun w' => (k ≤ l.length ∧ orOf l = orOf (l.drop k)) ∧ w' = w) (fun g => match g with | k => l.length - k) 0 ⟨rfl, rfl, rfl, rfl, trivial⟩ (fun w' e => ⟨⟨Nat.zero_le _, rfl⟩, e⟩) ?_
  rintro k 
  dsimp only
  refine Wc.pure (p := k ≤ l.length ∧ orOf l = orOf (l.drop k)) (fun w hw => hw.1) ?_
  rintro ⟨hk0, ho⟩
  refine Wc.seq ?_
  refine Wc.region ?_
  refine Wl.lss rfl rfl rfl ?_
  refine Wl.nil ?_
  refine Wx.then_n ?_
  refine Wc.seq ?_
  refine Wc.condp rfl (fun h9 => ?_) (fun h9 => ?_)
  ·
    have hk : k < l.length := by omega
    rw [List.drop_eq_getElem_cons hk, orOf_cons] at ho
    refine Wc.skip ?_
    refine Wx.then_n ?_
    refine Wc.seq ?_
    refine Wc.block ?_
    refine Wc.seq ?_
    refine Wc.region ?_
    refine Wl.idx Tryz.underlying24 t3 rfl rfl rfl hk ?_
    refine Wl.loadh (j := 0) (cs := eInt l[k]) t3 (fun w hw => hw.2 ▸ hr.cells k hk) rfl rfl (Addr.add_zero' _).symm rfl ?_
    refine Wl.assign rfl rfl ?_
    refine Wl.nil ?_
    refine Wx.then_n ?_
    refine Wc.seq ?_
    refine Wc.region ?_
    refine Wl.move rfl rfl ?_
    refine Wl.move rfl rfl ?_
    refine Wl.neq rfl rfl rfl ?_
    refine Wl.nil ?_
    refine Wx.then_n ?_
    refine Wc.condp rfl (fun h14 => ?_) (fun h14 => ?_)
    ·
      refine Wc.seq ?_
      refine Wc.region ?_
      refine Wl.move rfl rfl ?_
      refine Wl.assign rfl rfl ?_
      refine Wl.nil ?_
      refine Wx.then_n ?_
      refine Wc.ret ?_
      refine Wx.block_r ?_
      refine Wx.then_r ?_
      refine Wx.then_r ?_
      refine Wx.block_r ?_
      refine Wx.then_r ?_
      exact Wx.body_ret _ rfl rfl (fun w hw => ⟨by rw [ho, if_pos h14], hw.2⟩)
    ·
      refine Wc.skip ?_
      refine Wx.block_n ?_
      refine Wx.then_n ?_
      refine Wc.region ?_
      refine Wl.add rfl rfl rfl (by omega) ?_
      refine Wl.move rfl rfl ?_
      refine Wl.nil ?_
      exact Wx.again (k + 1) (by (try dsimp only); omega) ⟨rfl, rfl, rfl, rfl, trivial⟩ (fun w hw => ⟨⟨hk, by rw [ho, if_neg h14]⟩, hw.2⟩)
  ·
    refine Wc.exit ?_
    refine Wx.then_e ?_
    refine Wx.then_e ?_
    refine Wx.block_e ?_
    refine Wx.then_n ?_
    refine Wc.seq ?_
    refine Wc.region ?_
    refine Wl.move rfl rfl ?_
    refine Wl.assign rfl rfl ?_
    refine Wl.nil ?_
    refine Wx.then_n ?_
    refine Wc.ret ?_
    obtain rfl : k = l.length := by omega
    exact Wx.body_ret _ rfl rfl (fun w hw => ⟨by rw [ho, List.drop_length]; rfl, hw.2⟩)

theorem sort1_calls (x y : Rec) (w : World) :
    Calls Tryz.prog 98 #[.agg (eRec x).toArray, .agg (eRec y).toArray] w (fun e w' => e = .returned (.int .i64 (cmpR x y)) ∧ ∃ q os, w' = Go.Sort.grow (w.drewN q) os) := by
  refine calls_of_Wc (args := [.agg (eRec x).toArray, .agg (eRec y).toArray]) 22 Tryz.func98 rfl rfl (by simp) ?_
  refine Wc.heap (H' := XW w #[]) (fun w' e => by subst e; exact XW.start _) ?_
  refine Wc.seq ?_
  refine Wc.region ?_
  refine Wl.boxX rfl rfl rfl ?_
  refine Wl.boxX rfl rfl rfl ?_
  refine Wl.assign rfl rfl ?_
  refine Wl.nil ?_
  refine Wx.then_n ?_
  refine Wc.seq ?_
  refine Wc.drawt 15 mixed (by kernel_rfl) (fun w hw => hw.drew) ?_
  refine Wl.fld _ fl70_0 rfl rfl rfl ?_
  refine Wl.loadh (j := 0) (cs := (eRec x)) t2 (fun w hw => XW.cells hw 0 rfl) rfl rfl rfl rfl ?_
  refine Wl.fld _ fl70_0 rfl rfl rfl ?_
  refine Wl.loadh (j := 0) (cs := (eRec y)) t2 (fun w hw => XW.cells hw 1 rfl) rfl rfl rfl rfl ?_
  refine Wl.callE [_, _] Tryz.func100 rfl rfl rfl rfl (fun w hw => compare_calls _ _ w) ?_
  refine Wl.fld _ fl70_1 rfl rfl rfl ?_
  refine Wl.loadh (j := 1) (cs := (eRec x)) t2 (fun w hw => XW.cells hw 0 rfl) rfl rfl rfl rfl ?_
  refine Wl.fld _ fl70_1 rfl rfl rfl ?_
  refine Wl.loadh (j := 1) (cs := (eRec y)) t2 (fun w hw => XW.cells hw 1 rfl) rfl rfl rfl rfl ?_
  refine Wl.callE [_, _] Tryz.func100 rfl rfl rfl rfl (fun w hw => compare_calls _ _ w) ?_
  refine Wl.fld _ fl70_2 rfl rfl rfl ?_
  refine Wl.loadh (j := 2) (cs := (eRec x)) t2 (fun w hw => XW.cells hw 0 rfl) rfl rfl rfl rfl ?_
  refine Wl.fld _ fl70_2 rfl rfl rfl ?_
  refine Wl.loadh (j := 2) (cs := (eRec y)) t2 (fun w hw => XW.cells hw 1 rfl) rfl rfl rfl rfl ?_
  refine Wl.callE [_, _] Tryz.func100 rfl rfl rfl rfl (fun w hw => compare_calls _ _ w) ?_
  refine Wl.nilt ?_
  refine Wl.slitX [(0, _), (1, _), (2, _)] [.int .i64 (cmp3 x.key y.key), .int .i64 (cmp3 x.time y.time), .int .i64 (cmp3 x.val y.val)] Tryz.underlying24 t3 rfl rfl rfl rfl (by kernel_rfl) ?_
  refine Wl.callE [.slice (some ⟨w.heap.size + 2, 0, none⟩) 3 3] Tryz.func99 rfl rfl rfl rfl (fun w hw => or_calls ⟨_, 0, none⟩ 3 [cmp3 x.key y.key, cmp3 x.time y.time, cmp3 x.val y.val] _ (row_of_cells (XW.cells hw 2 rfl) (by simp))) ?_
  refine Wl.assign rfl rfl ?_
  refine Wl.nil ?_
  refine Wx.then_n ?_
  refine Wc.ret ?_
  exact Wx.body_ret _ rfl rfl (fun w' hw => ⟨rfl, by obtain ⟨q, hq⟩ := hw; exact ⟨q, _, hq⟩⟩)

theorem order1_calls (x y : Pane) (w : World) :
    Calls Tryz.prog 196 #[.agg (ePane x).toArray, .agg (ePane y).toArray] w (fun e w' => e = .returned (.int .i64 (cmpP x y)) ∧ ∃ q os, w' = Go.Sort.grow (w.drewN q) os) := by
  refine calls_of_Wc (args := [.agg (ePane x).toArray, .agg (ePane y).toArray]) 31 Tryz.func196 rfl rfl (by simp) ?_
  refine Wc.heap (H' := XW w #[]) (fun w' e => by subst e; exact XW.start _) ?_
  refine Wc.seq ?_
  refine Wc.region ?_
  refine Wl.boxX rfl rfl rfl ?_
  refine Wl.boxX rfl rfl rfl ?_
  refine Wl.assign rfl rfl ?_
  refine Wl.nil ?_
  refine Wx.then_n ?_
  refine Wc.seq ?_
  refine Wc.drawt 24 mixed (by kernel_rfl) (fun w hw => hw.drew) ?_
  refine Wl.fld _ fl166_0 rfl rfl rfl ?_
  refine Wl.loadh (j := 0) (cs := (ePane x)) t2 (fun w hw => XW.cells hw 0 rfl) rfl rfl rfl rfl ?_
  refine Wl.fld _ fl166_0 rfl rfl rfl ?_
  refine Wl.loadh (j := 0) (cs := (ePane y)) t2 (fun w hw => XW.cells hw 1 rfl) rfl rfl rfl rfl ?_
  refine Wl.callE [_, _] Tryz.func100 rfl rfl rfl rfl (fun w hw => compare_calls _ _ w) ?_
  refine Wl.fld _ fl166_1 rfl rfl rfl ?_
  refine Wl.fld _ fl164_0 rfl rfl rfl ?_
  refine Wl.loadh (j := 1) (cs := (ePane x)) t2 (fun w hw => XW.cells hw 0 rfl) rfl rfl (Addr.add_add' _ _ _) rfl ?_
  refine Wl.fld _ fl166_1 rfl rfl rfl ?_
  refine Wl.fld _ fl164_0 rfl rfl rfl ?_
  refine Wl.loadh (j := 1) (cs := (ePane y)) t2 (fun w hw => XW.cells hw 1 rfl) rfl rfl (Addr.add_add' _ _ _) rfl ?_
  refine Wl.callE [_, _] Tryz.func100 rfl rfl rfl rfl (fun w hw => compare_calls _ _ w) ?_
  refine Wl.fld _ fl166_1 rfl rfl rfl ?_
  refine Wl.fld _ fl164_1 rfl rfl rfl ?_
  refine Wl.loadh (j := 2) (cs := (ePane x)) t2 (fun w hw => XW.cells hw 0 rfl) rfl rfl (Addr.add_add' _ _ _) rfl ?_
  refine Wl.fld _ fl166_1 rfl rfl rfl ?_
  refine Wl.fld _ fl164_1 rfl rfl rfl ?_
  refine Wl.loadh (j := 2) (cs := (ePane y)) t2 (fun w hw => XW.cells hw 1 rfl) rfl rfl (Addr.add_add' _ _ _) rfl ?_
  refine Wl.callE [_, _] Tryz.func100 rfl rfl rfl rfl (fun w hw => compare_calls _ _ w) ?_
  refine Wl.fld _ fl166_2 rfl rfl rfl ?_
  refine Wl.loadh (j := 3) (cs := (ePane x)) t2 (fun w hw => XW.cells hw 0 rfl) rfl rfl rfl rfl ?_
  refine Wl.fld _ fl166_2 rfl rfl rfl ?_
  refine Wl.loadh (j := 3) (cs := (ePane y)) t2 (fun w hw => XW.cells hw 1 rfl) rfl rfl rfl rfl ?_
  refine Wl.callE [_, _] Tryz.func100 rfl rfl rfl rfl (fun w hw => compare_calls _ _ w) ?_
  refine Wl.nilt ?_
  refine Wl.slitX [(0, _), (1, _), (2, _), (3, _)] [.int .i64 (cmp3 x.key y.key), .int .i64 (cmp3 x.span.frm y.span.frm), .int .i64 (cmp3 x.span.to y.span.to), .int .i64 (cmp3 x.acc y.acc)] Tryz.underlying24 t3 rfl rfl rfl rfl (by kernel_rfl) ?_
  refine Wl.callE [.slice (some ⟨w.heap.size + 2, 0, none⟩) 4 4] Tryz.func99 rfl rfl rfl rfl (fun w hw => or_calls ⟨_, 0, none⟩ 4 [cmp3 x.key y.key, cmp3 x.span.frm y.span.frm, cmp3 x.span.to y.span.to, cmp3 x.acc y.acc] _ (row_of_cells (XW.cells hw 2 rfl) (by simp))) ?_
  refine Wl.assign rfl rfl ?_
  refine Wl.nil ?_
  refine Wx.then_n ?_
  refine Wc.ret ?_
  exact Wx.body_ret _ rfl rfl (fun w' hw => ⟨rfl, by obtain ⟨q, hq⟩ := hw; exact ⟨q, _, hq⟩⟩)

end Go.Proofs.YtkffjbijamfnoaaGreat
