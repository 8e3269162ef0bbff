/-
  Expressions: whether they are formed, how large they are, what they come to.
-/
import Derived.Test.YtkffjbijamfnoaaGreatLeaf
set_option linter.unusedVariables false
set_option linter.unusedSimpArgs false
namespace Go.Proofs.YtkffjbijamfnoaaGreat
open Go.RowKit

theorem formed7_calls : ∀ (N : Nat) (m : Nat → Prop) (e : Expr) (A : Option Addr) (c : Nat) (w : World) (hr : Ro m w (fun w => kExpr.Row w A e.l)) (hc : e.l.length ≤ c) (hN : e.count ≤ N),
    Calls Tryz.prog 211 #[.agg #[.int .i64 e.op, .int .i64 e.n, .slice A e.l.length c]] w (PostV m w (.bool e.formed)) := by
  intro N
  induction N with
  | zero => intro m e A c w hr hc hN; exact absurd hN (by have := e.count_pos; omega)
  | succ N ih =>
    intro m e A c w hr hc hN
    have hlen : e.l.length ≤ 9223372036854775807 := hr.now.1
    refine calls_of_Wc (args := [.agg #[.int .i64 e.op, .int .i64 e.n, .slice A e.l.length c]]) 41 Tryz.func211 rfl rfl (by simp) ?_
    refine Wc.start hr ?_
    refine Wc.seq ?_
    refine Wc.region ?_
    refine Wl.box rfl rfl rfl (fun b1 => ?_)
    refine Wl.assign rfl rfl ?_
    refine Wl.nil ?_
    refine Wx.then_n ?_
    refine Wc.cutS (G := Unit) (fun g => match g with | _ => [(1, .pointer (some ⟨b1, 0, none⟩))]) (fun g => match g with | _ => arity e.op = e.l.length ∧ (e.n = 0 ∨ e.op = 1)) (fun g => match g with | _ => [.box b1 [.int .i64 e.op, .int .i64 e.n, .slice A e.l.length c] 27]) (fun g => match g with | _ => fun w => kExpr.Row w A e.l) ?_ ?_
    ·
      refine Wc.seq ?_
      refine Wc.draw mixed (by kernel_rfl) (fun w hw => hw.drew) ?_
      refine Wl.fld ⟨_, 0, none⟩ fl27_0 rfl rfl rfl ?_
      refine Wl.loadb 0 0 t3 rfl rfl rfl rfl ?_
      refine Wl.callV [_] Tryz.func232 rfl rfl rfl rfl (fun w hw => arity7_calls _ _ _ (hw.read fun _ _ => trivial)) ?_
      refine Wl.lss rfl rfl rfl ?_
      refine Wl.move rfl rfl ?_
      refine Wl.splitp 8 rfl (fun h8 => ?_) (fun h8 => ?_)
      ·
        refine Wl.skip rfl rfl ?_
        refine Wl.skip rfl rfl ?_
        refine Wl.skip rfl rfl ?_
        refine Wl.skip rfl rfl ?_
        refine Wl.skip rfl rfl ?_
        refine Wl.skip rfl rfl ?_
        refine Wl.skip rfl rfl ?_
        refine Wl.pick_t rfl rfl rfl ?_
        refine Wl.move rfl rfl ?_
        refine Wl.skip rfl rfl ?_
        refine Wl.skip rfl rfl ?_
        refine Wl.skip rfl rfl ?_
        refine Wl.skip rfl rfl ?_
        refine Wl.skip rfl rfl ?_
        refine Wl.skip rfl rfl ?_
        refine Wl.skip rfl rfl ?_
        refine Wl.skip rfl rfl ?_
        refine Wl.pick_t rfl rfl rfl ?_
        refine Wl.nilq ?_
        refine Wx.then_n ?_
        refine Wc.cond_t rfl ?_
        refine Wc.seq ?_
        refine Wc.region ?_
        refine Wl.assign rfl rfl ?_
        refine Wl.nil ?_
        refine Wx.then_n ?_
        refine Wc.ret ?_
        refine Wx.then_r ?_
        rw [show e.formed = false by rw [Expr.formed_eq]; rw [decide_eq_false (by omega)]; rfl]
        exact Wx.retV rfl rfl
      ·
        refine Wl.fld ⟨_, 2, none⟩ fl27_2 rfl rfl rfl ?_
        refine Wl.loadb 0 2 t25 rfl rfl rfl rfl ?_
        refine Wl.len Tryz.underlying25 rfl rfl ?_
        refine Wl.fld ⟨_, 0, none⟩ fl27_0 rfl rfl rfl ?_
        refine Wl.loadb 0 0 t3 rfl rfl rfl rfl ?_
        refine Wl.callV [_] Tryz.func232 rfl rfl rfl rfl (fun w hw => arity7_calls _ _ _ (hw.read fun _ _ => trivial)) ?_
        refine Wl.neq rfl rfl rfl ?_
        refine Wl.pick_f rfl rfl rfl ?_
        refine Wl.move rfl rfl ?_
        refine Wl.splitp 17 rfl (fun h17 => ?_) (fun h17 => ?_)
        ·
          refine Wl.skip rfl rfl ?_
          refine Wl.skip rfl rfl ?_
          refine Wl.skip rfl rfl ?_
          refine Wl.skip rfl rfl ?_
          refine Wl.skip rfl rfl ?_
          refine Wl.skip rfl rfl ?_
          refine Wl.skip rfl rfl ?_
          refine Wl.skip rfl rfl ?_
          refine Wl.pick_t rfl rfl rfl ?_
          refine Wl.nilq ?_
          refine Wx.then_n ?_
          refine Wc.cond_t rfl ?_
          refine Wc.seq ?_
          refine Wc.region ?_
          refine Wl.assign rfl rfl ?_
          refine Wl.nil ?_
          refine Wx.then_n ?_
          refine Wc.ret ?_
          refine Wx.then_r ?_
          rw [show e.formed = false by rw [Expr.formed_eq]; rw [decide_eq_false (by omega)]; rfl]
          exact Wx.retV rfl rfl
        ·
          refine Wl.fld ⟨_, 1, none⟩ fl27_1 rfl rfl rfl ?_
          refine Wl.loadb 0 1 t2 rfl rfl rfl rfl ?_
          refine Wl.neq rfl rfl rfl ?_
          refine Wl.move rfl rfl ?_
          refine Wl.splitp 21 rfl (fun h21 => ?_) (fun h21 => ?_)
          ·
            refine Wl.fld ⟨_, 0, none⟩ fl27_0 rfl rfl rfl ?_
            refine Wl.loadb 0 0 t3 rfl rfl rfl rfl ?_
            refine Wl.neq rfl rfl rfl ?_
            refine Wl.pick_t rfl rfl rfl ?_
            refine Wl.pick_f rfl rfl rfl ?_
            refine Wl.nilq ?_
            refine Wx.then_n ?_
            refine Wc.condp rfl (fun h26 => ?_) (fun h26 => ?_)
            ·
              refine Wc.seq ?_
              refine Wc.region ?_
              refine Wl.assign rfl rfl ?_
              refine Wl.nil ?_
              refine Wx.then_n ?_
              refine Wc.ret ?_
              refine Wx.then_r ?_
              rw [show e.formed = false by rw [Expr.formed_eq]; rw [decide_eq_false h21, decide_eq_false h26]; simp]
              exact Wx.retV rfl rfl
            ·
              refine Wc.skip ?_
              exact Wx.metS () ⟨rfl, trivial⟩ ⟨by omega, .inr (by omega)⟩ (fun w hw => hw)
          ·
            refine Wl.skip rfl rfl ?_
            refine Wl.skip rfl rfl ?_
            refine Wl.skip rfl rfl ?_
            refine Wl.pick_f rfl rfl rfl ?_
            refine Wl.pick_f rfl rfl rfl ?_
            refine Wl.nilq ?_
            refine Wx.then_n ?_
            refine Wc.cond_f rfl ?_
            refine Wc.skip ?_
            exact Wx.metS () ⟨rfl, trivial⟩ ⟨by omega, .inl (by omega)⟩ (fun w hw => hw)
    ·
      rintro _ ⟨ha, hno⟩
      dsimp only
      refine Wc.seq ?_
      refine Wc.seq ?_
      refine Wc.region ?_
      refine Wl.assign rfl rfl ?_
      refine Wl.nil ?_
      refine Wx.then_n ?_
      refine Wc.block ?_
      refine Wc.loopS (G := Nat) (fun g => match g with | k => [(1, .pointer (some ⟨b1, 0, none⟩)), (3, .int .i64 k)]) (fun g => match g with | k => k ≤ e.l.length ∧ Expr.formedL e.l = Expr.formedL (e.l.drop k)) (fun g => match g with | k => [.box b1 [.int .i64 e.op, .int .i64 e.n, .slice A e.l.length c] 27]) (fun g => match g with | k => fun w => kExpr.Row w A e.l) (fun g => match g with | k => e.l.length - k) 0 ⟨rfl, rfl, trivial⟩ ⟨Nat.zero_le _, rfl⟩ (fun w hw => hw) ?_
      rintro k ⟨hk0, he⟩
      dsimp only
      refine Wc.seq ?_
      refine Wc.seq ?_
      refine Wc.region ?_
      refine Wl.move rfl rfl ?_
      refine Wl.fld ⟨_, 2, none⟩ fl27_2 rfl rfl rfl ?_
      refine Wl.loadb 0 2 t25 rfl rfl rfl rfl ?_
      refine Wl.len Tryz.underlying25 rfl rfl ?_
      refine Wl.lss rfl rfl rfl ?_
      refine Wl.nil ?_
      refine Wx.then_n ?_
      refine Wc.condp rfl (fun h31 => ?_) (fun h31 => ?_)
      ·
        have hk : k < e.l.length := by omega
        refine Wc.pure (p := ∃ ad, A = some ad) (fun w hw => hw.addr (fun w h => h) (by omega)) ?_
        rintro ⟨ad, rfl⟩
        refine Wc.exS (fun w hw => hw.expr_get (fun w h => h) k hk) ?_
        rintro ⟨A', c'⟩ hc'
        dsimp only at hc' ⊢
        have hcnt := e.count_child k hk
        rw [Expr.formedL_drop e.l k hk] at he
        refine Wc.skip ?_
        refine Wx.then_n ?_
        refine Wc.seq ?_
        refine Wc.block ?_
        refine Wc.seq ?_
        refine Wc.region ?_
        refine Wl.fld ⟨_, 2, none⟩ fl27_2 rfl rfl rfl ?_
        refine Wl.loadb 0 2 t25 rfl rfl rfl rfl ?_
        refine Wl.move rfl rfl ?_
        refine Wl.idx Tryz.underlying25 t27 rfl rfl rfl hk ?_
        refine Wl.loadrw (cs := [.int .i64 e.l[k].op, .int .i64 e.l[k].n, .slice A' e.l[k].l.length c']) t27 (fun w h => h.2.1) rfl rfl rfl ?_
        refine Wl.callV [_] Tryz.func211 rfl rfl rfl rfl (fun w hw => ih _ e.l[k] A' c' w (hw.read fun w h => h.2.2) hc' (by omega)) ?_
        refine Wl.not rfl rfl ?_
        refine Wl.nil ?_
        refine Wx.then_n ?_
        refine Wc.cond rfl (fun h40 => ?_) (fun h40 => ?_)
        ·
          refine Wc.seq ?_
          refine Wc.region ?_
          refine Wl.assign rfl rfl ?_
          refine Wl.nil ?_
          refine Wx.then_n ?_
          refine Wc.ret ?_
          refine Wx.block_r ?_
          refine Wx.then_r ?_
          refine Wx.then_r ?_
          refine Wx.block_r ?_
          refine Wx.then_r ?_
          rw [show e.formed = false by rw [Expr.formed_eq]; rw [he, show e.l[k].formed = false by simpa using h40]; simp]
          exact Wx.retV rfl rfl
        ·
          refine Wc.skip ?_
          refine Wx.block_n ?_
          refine Wx.then_n ?_
          refine Wc.region ?_
          refine Wl.move rfl rfl ?_
          refine Wl.add rfl rfl rfl (by omega) ?_
          refine Wl.assign rfl rfl ?_
          refine Wl.nil ?_
          exact Wx.againS (k + 1) (by omega) ⟨rfl, rfl, trivial⟩ ⟨hk, by rw [he, show e.l[k].formed = true by simpa using h40]; rfl⟩ (fun w hw => hw.imp fun w h => h.1)
      ·
        refine Wc.exit ?_
        refine Wx.then_e ?_
        refine Wx.then_e ?_
        refine Wx.block_e ?_
        refine Wx.then_n ?_
        refine Wc.seq ?_
        refine Wc.region ?_
        refine Wl.assign rfl rfl ?_
        refine Wl.nil ?_
        refine Wx.then_n ?_
        refine Wc.ret ?_
        obtain rfl : k = e.l.length := by omega
        rw [show e.formed = true by rw [Expr.formed_eq, he, decide_eq_true ha]; rcases hno with h | h <;> simp [h, Expr.formedL]]
        exact Wx.retV rfl rfl

theorem light_calls : ∀ (N : Nat) (m : Nat → Prop) (e : Expr) (A : Option Addr) (c : Nat) (most deep : Int) (w : World) (hr : Ro m w (fun w => kExpr.Row w A e.l)) (hc : e.l.length ≤ c) (hm0 : 0 ≤ most) (hm1 : most ≤ 1099511627776) (hd0 : 0 ≤ deep) (hd1 : deep ≤ 1099511627776) (hN : e.count ≤ N),
    Calls Tryz.prog 53 #[.agg #[.int .i64 e.op, .int .i64 e.n, .slice A e.l.length c], .int .i64 most, .int .i64 deep] w (PostV m w (.int .i64 (e.light most deep))) := by
  intro N
  induction N with
  | zero => intro m e A c most deep w hr hc hm0 hm1 hd0 hd1 hN; exact absurd hN (by have := e.count_pos; omega)
  | succ N ih =>
    intro m e A c most deep w hr hc hm0 hm1 hd0 hd1 hN
    have hlen : e.l.length ≤ 9223372036854775807 := hr.now.1
    refine calls_of_Wc (args := [.agg #[.int .i64 e.op, .int .i64 e.n, .slice A e.l.length c], .int .i64 most, .int .i64 deep]) 43 Tryz.func53 rfl rfl (by simp) ?_
    refine Wc.start hr ?_
    refine Wc.seq ?_
    refine Wc.region ?_
    refine Wl.box rfl rfl rfl (fun b3 => ?_)
    refine Wl.assign rfl rfl ?_
    refine Wl.nil ?_
    refine Wx.then_n ?_
    refine Wc.seq ?_
    refine Wc.seq ?_
    refine Wc.region ?_
    refine Wl.move rfl rfl ?_
    refine Wl.leq rfl rfl rfl ?_
    refine Wl.move rfl rfl ?_
    refine Wl.splitp 11 rfl (fun h11 => ?_) (fun h11 => ?_)
    ·
      refine Wl.skip rfl rfl ?_
      refine Wl.skip rfl rfl ?_
      refine Wl.pick_t rfl rfl rfl ?_
      refine Wl.nil ?_
      refine Wx.then_n ?_
      refine Wc.cond_t rfl ?_
      refine Wc.seq ?_
      refine Wc.region ?_
      refine Wl.move rfl rfl ?_
      refine Wl.add rfl rfl rfl (by omega) ?_
      refine Wl.assign rfl rfl ?_
      refine Wl.nil ?_
      refine Wx.then_n ?_
      refine Wc.ret ?_
      refine Wx.then_r ?_
      exact Wx.retI rfl rfl (by rw [e.light_eq, if_pos (.inl h11)])
    ·
      refine Wl.move rfl rfl ?_
      refine Wl.leq rfl rfl rfl ?_
      refine Wl.pick_f rfl rfl rfl ?_
      refine Wl.nil ?_
      refine Wx.then_n ?_
      refine Wc.condp rfl (fun h14 => ?_) (fun h14 => ?_)
      ·
        refine Wc.seq ?_
        refine Wc.region ?_
        refine Wl.move rfl rfl ?_
        refine Wl.add rfl rfl rfl (by omega) ?_
        refine Wl.assign rfl rfl ?_
        refine Wl.nil ?_
        refine Wx.then_n ?_
        refine Wc.ret ?_
        refine Wx.then_r ?_
        exact Wx.retI rfl rfl (by rw [e.light_eq, if_pos (.inr h14)])
      ·
        refine Wc.skip ?_
        refine Wx.then_n ?_
        refine Wc.seq ?_
        refine Wc.region ?_
        refine Wl.assign rfl rfl ?_
        refine Wl.nil ?_
        refine Wx.then_n ?_
        refine Wc.seq ?_
        refine Wc.seq ?_
        refine Wc.region ?_
        refine Wl.assign rfl rfl ?_
        refine Wl.nil ?_
        refine Wx.then_n ?_
        refine Wc.block ?_
        refine Wc.loopS (G := Nat × Int) (fun g => match g with | ⟨k, nn⟩ => [(1, .int .i64 most), (2, .int .i64 deep), (3, .pointer (some ⟨b3, 0, none⟩)), (7, .int .i64 nn), (8, .int .i64 k)]) (fun g => match g with | ⟨k, nn⟩ => k ≤ e.l.length ∧ 1 ≤ nn ∧ nn ≤ most + 1 ∧ Expr.lightL e.l most deep 1 = Expr.lightL (e.l.drop k) most deep nn) (fun g => match g with | ⟨k, nn⟩ => [.box b3 [.int .i64 e.op, .int .i64 e.n, .slice A e.l.length c] 27]) (fun g => match g with | ⟨k, nn⟩ => fun w => kExpr.Row w A e.l) (fun g => match g with | ⟨k, nn⟩ => e.l.length - k) ⟨0, 1⟩ ⟨rfl, rfl, rfl, rfl, rfl, trivial⟩ ⟨Nat.zero_le _, Int.le_refl _, by omega, rfl⟩ (fun w hw => hw) ?_
        rintro ⟨k, nn⟩ ⟨hk0, hn1, hn2, he⟩
        dsimp only
        refine Wc.seq ?_
        refine Wc.seq ?_
        refine Wc.region ?_
        refine Wl.move rfl rfl ?_
        refine Wl.fld ⟨_, 2, none⟩ fl27_2 rfl rfl rfl ?_
        refine Wl.loadb 0 2 t25 rfl rfl rfl rfl ?_
        refine Wl.len Tryz.underlying25 rfl rfl ?_
        refine Wl.lss rfl rfl rfl ?_
        refine Wl.move rfl rfl ?_
        refine Wl.splitp 22 rfl (fun h22 => ?_) (fun h22 => ?_)
        ·
          refine Wl.move rfl rfl ?_
          refine Wl.move rfl rfl ?_
          refine Wl.leq rfl rfl rfl ?_
          refine Wl.pick_t rfl rfl rfl ?_
          refine Wl.nil ?_
          refine Wx.then_n ?_
          refine Wc.condp rfl (fun h26 => ?_) (fun h26 => ?_)
          ·
            have hk : k < e.l.length := by omega
            refine Wc.pure (p := ∃ ad, A = some ad) (fun w hw => hw.addr (fun w h => h) (by omega)) ?_
            rintro ⟨ad, rfl⟩
            refine Wc.exS (fun w hw => hw.expr_get (fun w h => h) k hk) ?_
            rintro ⟨A', c'⟩ hc'
            dsimp only at hc' ⊢
            have hcnt := e.count_child k hk
            rw [Expr.lightL_drop e.l k hk, if_pos h26] at he
            have hb := e.l[k].light_bd (most - nn) (deep - 1) (by omega)
            refine Wc.skip ?_
            refine Wx.then_n ?_
            refine Wc.seq ?_
            refine Wc.block ?_
            refine Wc.region ?_
            refine Wl.move rfl rfl ?_
            refine Wl.fld ⟨_, 2, none⟩ fl27_2 rfl rfl rfl ?_
            refine Wl.loadb 0 2 t25 rfl rfl rfl rfl ?_
            refine Wl.move rfl rfl ?_
            refine Wl.idx Tryz.underlying25 t27 rfl rfl rfl hk ?_
            refine Wl.loadrw (cs := [.int .i64 e.l[k].op, .int .i64 e.l[k].n, .slice A' e.l[k].l.length c']) t27 (fun w h => h.2.1) rfl rfl rfl ?_
            refine Wl.move rfl rfl ?_
            refine Wl.move rfl rfl ?_
            refine Wl.sub rfl rfl rfl (by omega) ?_
            refine Wl.move rfl rfl ?_
            refine Wl.sub rfl rfl rfl (by omega) ?_
            refine Wl.callV [_, _, _] Tryz.func53 rfl rfl rfl rfl (fun w hw => ih _ e.l[k] A' c' (most - nn) (deep - 1) w (hw.read fun w h => h.2.2) hc' (by omega) (by omega) (by omega) (by omega) (by omega)) ?_
            refine Wl.add rfl rfl rfl (by omega) ?_
            refine Wl.assign rfl rfl ?_
            refine Wl.nil ?_
            refine Wx.block_n ?_
            refine Wx.then_n ?_
            refine Wc.region ?_
            refine Wl.move rfl rfl ?_
            refine Wl.add rfl rfl rfl (by omega) ?_
            refine Wl.assign rfl rfl ?_
            refine Wl.nil ?_
            exact Wx.againS ⟨k + 1, nn + e.l[k].light (most - nn) (deep - 1)⟩ (by dsimp only; omega) ⟨rfl, rfl, rfl, rfl, rfl, trivial⟩ ⟨hk, by omega, by omega, he⟩ (fun w hw => hw.imp fun w h => h.1)
          ·
            refine Wc.exit ?_
            refine Wx.then_e ?_
            refine Wx.then_e ?_
            refine Wx.block_e ?_
            refine Wx.then_n ?_
            refine Wc.seq ?_
            refine Wc.region ?_
            refine Wl.move rfl rfl ?_
            refine Wl.assign rfl rfl ?_
            refine Wl.nil ?_
            refine Wx.then_n ?_
            refine Wc.ret ?_
            have hk : k < e.l.length := by omega
            exact Wx.retI rfl rfl (by rw [e.light_eq, if_neg (by omega), he, Expr.lightL_drop e.l k hk, if_neg h26])
        ·
          refine Wl.skip rfl rfl ?_
          refine Wl.skip rfl rfl ?_
          refine Wl.skip rfl rfl ?_
          refine Wl.pick_f rfl rfl rfl ?_
          refine Wl.nil ?_
          refine Wx.then_n ?_
          refine Wc.cond_f rfl ?_
          refine Wc.exit ?_
          refine Wx.then_e ?_
          refine Wx.then_e ?_
          refine Wx.block_e ?_
          refine Wx.then_n ?_
          refine Wc.seq ?_
          refine Wc.region ?_
          refine Wl.move rfl rfl ?_
          refine Wl.assign rfl rfl ?_
          refine Wl.nil ?_
          refine Wx.then_n ?_
          refine Wc.ret ?_
          obtain rfl : k = e.l.length := by omega
          exact Wx.retI rfl rfl (by rw [e.light_eq, if_neg (by omega), he]; simp [Expr.lightL])

theorem size7_calls : ∀ (N : Nat) (m : Nat → Prop) (e : Expr) (A : Option Addr) (c : Nat) (w : World) (hr : Ro m w (fun w => kExpr.Row w A e.l)) (hc : e.l.length ≤ c) (hs : e.count ≤ 1099511627776) (hN : e.count ≤ N),
    Calls Tryz.prog 212 #[.agg #[.int .i64 e.op, .int .i64 e.n, .slice A e.l.length c]] w (PostV m w (.tuple #[.int .i64 e.count, .int .i64 e.deep])) := by
  intro N
  induction N with
  | zero => intro m e A c w hr hc hs hN; exact absurd hN (by have := e.count_pos; omega)
  | succ N ih =>
    intro m e A c w hr hc hs hN
    have hlen : e.l.length ≤ 9223372036854775807 := hr.now.1
    have hce := e.count_eq
    have hde := e.deep_eq
    have hdc := Expr.deepL_le e.l
    refine calls_of_Wc (args := [.agg #[.int .i64 e.op, .int .i64 e.n, .slice A e.l.length c]]) 34 Tryz.func212 rfl rfl (by simp) ?_
    refine Wc.start hr ?_
    refine Wc.seq ?_
    refine Wc.region ?_
    refine Wl.box rfl rfl rfl (fun b1 => ?_)
    refine Wl.assign rfl rfl ?_
    refine Wl.assign rfl rfl ?_
    refine Wl.nil ?_
    refine Wx.then_n ?_
    refine Wc.seq ?_
    refine Wc.region ?_
    refine Wl.assign rfl rfl ?_
    refine Wl.assign rfl rfl ?_
    refine Wl.nil ?_
    refine Wx.then_n ?_
    refine Wc.seq ?_
    refine Wc.seq ?_
    refine Wc.region ?_
    refine Wl.assign rfl rfl ?_
    refine Wl.nil ?_
    refine Wx.then_n ?_
    refine Wc.block ?_
    refine Wc.loopS (G := Nat × Int × Int) (fun g => match g with | ⟨k, x, y⟩ => [(1, .pointer (some ⟨b1, 0, none⟩)), (4, .int .i64 x), (5, .int .i64 y), (6, .int .i64 k)]) (fun g => match g with | ⟨k, x, y⟩ => k ≤ e.l.length ∧ x + (Expr.countL (e.l.drop k) : Int) = e.count ∧ 0 ≤ x ∧ 0 ≤ y ∧ max y (Expr.deepL (e.l.drop k) : Int) = Expr.deepL e.l) (fun g => match g with | ⟨k, x, y⟩ => [.box b1 [.int .i64 e.op, .int .i64 e.n, .slice A e.l.length c] 27]) (fun g => match g with | ⟨k, x, y⟩ => fun w => kExpr.Row w A e.l) (fun g => match g with | ⟨k, x, y⟩ => e.l.length - k) ⟨0, 1, 0⟩ ⟨rfl, rfl, rfl, rfl, trivial⟩ ⟨Nat.zero_le _, by rw [hce]; simp, by omega, by omega, by simp⟩ (fun w hw => hw) ?_
    rintro ⟨k, x, y⟩ ⟨hk0, h1, h0, h00, h2⟩
    dsimp only
    refine Wc.seq ?_
    refine Wc.seq ?_
    refine Wc.region ?_
    refine Wl.move rfl rfl ?_
    refine Wl.fld ⟨_, 2, none⟩ fl27_2 rfl rfl rfl ?_
    refine Wl.loadb 0 2 t25 rfl rfl rfl rfl ?_
    refine Wl.len Tryz.underlying25 rfl rfl ?_
    refine Wl.lss rfl rfl rfl ?_
    refine Wl.nil ?_
    refine Wx.then_n ?_
    refine Wc.condp rfl (fun h13 => ?_) (fun h13 => ?_)
    ·
      have hk : k < e.l.length := by omega
      refine Wc.pure (p := ∃ ad, A = some ad) (fun w hw => hw.addr (fun w h => h) (by omega)) ?_
      rintro ⟨ad, rfl⟩
      refine Wc.exS (fun w hw => hw.expr_get (fun w h => h) k hk) ?_
      rintro ⟨A', c'⟩ hc'
      dsimp only at hc' ⊢
      have hcnt := e.count_child k hk
      rw [Expr.countL_drop e.l k hk] at h1
      rw [Expr.deepL_drop e.l k hk] at h2
      have hdk := e.l[k].deep_le
      refine Wc.skip ?_
      refine Wx.then_n ?_
      refine Wc.seq ?_
      refine Wc.block ?_
      refine Wc.seq ?_
      refine Wc.region ?_
      refine Wl.fld ⟨_, 2, none⟩ fl27_2 rfl rfl rfl ?_
      refine Wl.loadb 0 2 t25 rfl rfl rfl rfl ?_
      refine Wl.move rfl rfl ?_
      refine Wl.idx Tryz.underlying25 t27 rfl rfl rfl hk ?_
      refine Wl.loadrw (cs := [.int .i64 e.l[k].op, .int .i64 e.l[k].n, .slice A' e.l[k].l.length c']) t27 (fun w h => h.2.1) rfl rfl rfl ?_
      refine Wl.callV [_] Tryz.func212 rfl rfl rfl rfl (fun w hw => ih _ e.l[k] A' c' w (hw.read fun w h => h.2.2) hc' (by omega) (by omega)) ?_
      refine Wl.move rfl rfl ?_
      refine Wl.extract rfl rfl rfl ?_
      refine Wl.extract rfl rfl rfl ?_
      refine Wl.assign rfl rfl ?_
      refine Wl.assign rfl rfl ?_
      refine Wl.nil ?_
      refine Wx.then_n ?_
      refine Wc.region ?_
      refine Wl.move rfl rfl ?_
      refine Wl.move rfl rfl ?_
      refine Wl.add rfl rfl rfl (by omega) ?_
      refine Wl.move rfl rfl ?_
      refine Wl.move rfl rfl ?_
      refine Wl.maxi rfl rfl rfl ?_
      refine Wl.assign rfl rfl ?_
      refine Wl.assign rfl rfl ?_
      refine Wl.nil ?_
      refine Wx.block_n ?_
      refine Wx.then_n ?_
      refine Wc.region ?_
      refine Wl.move rfl rfl ?_
      refine Wl.add rfl rfl rfl (by omega) ?_
      refine Wl.assign rfl rfl ?_
      refine Wl.nil ?_
      exact Wx.againS ⟨k + 1, x + e.l[k].count, max y e.l[k].deep⟩ (by dsimp only; omega) ⟨rfl, rfl, rfl, rfl, trivial⟩ ⟨hk, by dsimp only; omega, by dsimp only; omega, by dsimp only; omega, by dsimp only; omega⟩ (fun w hw => hw.imp fun w h => h.1)
    ·
      refine Wc.exit ?_
      refine Wx.then_e ?_
      refine Wx.then_e ?_
      refine Wx.block_e ?_
      refine Wx.then_n ?_
      refine Wc.seq ?_
      refine Wc.region ?_
      refine Wl.move rfl rfl ?_
      refine Wl.move rfl rfl ?_
      refine Wl.add rfl rfl rfl (by omega) ?_
      refine Wl.assign rfl rfl ?_
      refine Wl.assign rfl rfl ?_
      refine Wl.nil ?_
      refine Wx.then_n ?_
      refine Wc.ret ?_
      obtain rfl : k = e.l.length := by omega
      rw [List.drop_length] at h1 h2
      simp only [Expr.countL, Expr.deepL] at h1 h2
      rw [show (e.count : Int) = x by omega, show (e.deep : Int) = y + 1 by omega]
      exact Wx.retV2 rfl rfl rfl

theorem check7_calls (m : Nat → Prop) (e : Expr) (A : Option Addr) (c : Nat) (w : World) (hr : Ro m w (fun w => kExpr.Row w A e.l)) (hc : e.l.length ≤ c) (hs : e.count ≤ 1099511627776) :
    Calls Tryz.prog 185 #[.agg #[.int .i64 e.op, .int .i64 e.n, .slice A e.l.length c]] w (PostV m w (.int .i64 e.check)) := by
  refine calls_of_Wc (args := [.agg #[.int .i64 e.op, .int .i64 e.n, .slice A e.l.length c]]) 19 Tryz.func185 rfl rfl (by simp) ?_
  refine Wc.start hr ?_
  refine Wc.seq ?_
  refine Wc.region ?_
  refine Wl.box rfl rfl rfl (fun b1 => ?_)
  refine Wl.assign rfl rfl ?_
  refine Wl.nil ?_
  refine Wx.then_n ?_
  refine Wc.seq ?_
  refine Wc.seq ?_
  refine Wc.region ?_
  refine Wl.loadbw 0 t27 rfl rfl rfl rfl ?_
  refine Wl.callV [_] Tryz.func211 rfl rfl rfl rfl (fun w hw => formed7_calls e.count _ e A c w (hw.read fun w h => h) hc (Nat.le_refl _)) ?_
  refine Wl.not rfl rfl ?_
  refine Wl.nil ?_
  refine Wx.then_n ?_
  refine Wc.cond rfl (fun h7 => ?_) (fun h7 => ?_)
  ·
    refine Wc.seq ?_
    refine Wc.region ?_
    refine Wl.assign rfl rfl ?_
    refine Wl.nil ?_
    refine Wx.then_n ?_
    refine Wc.ret ?_
    refine Wx.then_r ?_
    exact Wx.retI rfl rfl (by unfold Expr.check; rw [show e.formed = false by simpa using h7]; rfl)
  ·
    refine Wc.skip ?_
    refine Wx.then_n ?_
    refine Wc.seq ?_
    refine Wc.region ?_
    refine Wl.loadbw 0 t27 rfl rfl rfl rfl ?_
    refine Wl.callV [_] Tryz.func212 rfl rfl rfl rfl (fun w hw => size7_calls e.count _ e A c w (hw.read fun w h => h) hc hs (Nat.le_refl _)) ?_
    refine Wl.move rfl rfl ?_
    refine Wl.extract rfl rfl rfl ?_
    refine Wl.extract rfl rfl rfl ?_
    refine Wl.assign rfl rfl ?_
    refine Wl.assign rfl rfl ?_
    refine Wl.nil ?_
    refine Wx.then_n ?_
    refine Wc.seq ?_
    refine Wc.seq ?_
    refine Wc.region ?_
    refine Wl.move rfl rfl ?_
    refine Wl.gtr rfl rfl rfl ?_
    refine Wl.move rfl rfl ?_
    refine Wl.splitp 15 rfl (fun h15 => ?_) (fun h15 => ?_)
    ·
      refine Wl.skip rfl rfl ?_
      refine Wl.skip rfl rfl ?_
      refine Wl.pick_t rfl rfl rfl ?_
      refine Wl.nil ?_
      refine Wx.then_n ?_
      refine Wc.cond_t rfl ?_
      refine Wc.seq ?_
      refine Wc.region ?_
      refine Wl.assign rfl rfl ?_
      refine Wl.nil ?_
      refine Wx.then_n ?_
      refine Wc.ret ?_
      refine Wx.then_r ?_
      exact Wx.retI rfl rfl (by unfold Expr.check; rw [show e.formed = true by simpa using h7, if_pos rfl]; split <;> omega)
    ·
      refine Wl.move rfl rfl ?_
      refine Wl.gtr rfl rfl rfl ?_
      refine Wl.pick_f rfl rfl rfl ?_
      refine Wl.nil ?_
      refine Wx.then_n ?_
      refine Wc.condp rfl (fun h18 => ?_) (fun h18 => ?_)
      ·
        refine Wc.seq ?_
        refine Wc.region ?_
        refine Wl.assign rfl rfl ?_
        refine Wl.nil ?_
        refine Wx.then_n ?_
        refine Wc.ret ?_
        refine Wx.then_r ?_
        exact Wx.retI rfl rfl (by unfold Expr.check; rw [show e.formed = true by simpa using h7, if_pos rfl]; split <;> omega)
      ·
        refine Wc.skip ?_
        refine Wx.then_n ?_
        refine Wc.seq ?_
        refine Wc.region ?_
        refine Wl.assign rfl rfl ?_
        refine Wl.nil ?_
        refine Wx.then_n ?_
        refine Wc.ret ?_
        exact Wx.retI rfl rfl (by unfold Expr.check; rw [show e.formed = true by simpa using h7, if_pos rfl]; split <;> omega)

theorem right_calls : ∀ (N : Nat) (m : Nat → Prop) (e : Expr) (A : Option Addr) (c : Nat) (w : World) (hr : Ro m w (fun w => kExpr.Row w A e.l)) (hc : e.l.length ≤ c) (hN : e.count ≤ N),
    Calls Tryz.prog 213 #[.agg #[.int .i64 e.op, .int .i64 e.n, .slice A e.l.length c]] w (PostV m w (.bool e.formed)) := by
  intro N
  induction N with
  | zero => intro m e A c w hr hc hN; exact absurd hN (by have := e.count_pos; omega)
  | succ N ih =>
    intro m e A c w hr hc hN
    have hlen : e.l.length ≤ 9223372036854775807 := hr.now.1
    refine calls_of_Wc (args := [.agg #[.int .i64 e.op, .int .i64 e.n, .slice A e.l.length c]]) 33 Tryz.func213 rfl rfl (by simp) ?_
    refine Wc.start hr ?_
    refine Wc.seq ?_
    refine Wc.region ?_
    refine Wl.box rfl rfl rfl (fun b1 => ?_)
    refine Wl.assign rfl rfl ?_
    refine Wl.nil ?_
    refine Wx.then_n ?_
    refine Wc.cutS (G := Unit) (fun g => match g with | _ => [(1, .pointer (some ⟨b1, 0, none⟩))]) (fun g => match g with | _ => arity e.op = e.l.length ∧ (e.n = 0 ∨ e.op = 1)) (fun g => match g with | _ => [.box b1 [.int .i64 e.op, .int .i64 e.n, .slice A e.l.length c] 27]) (fun g => match g with | _ => fun w => kExpr.Row w A e.l) ?_ ?_
    ·
      refine Wc.seq ?_
      refine Wc.draw mixed (by kernel_rfl) (fun w hw => hw.drew) ?_
      refine Wl.fld ⟨_, 0, none⟩ fl27_0 rfl rfl rfl ?_
      refine Wl.loadb 0 0 t3 rfl rfl rfl rfl ?_
      refine Wl.callV [_] Tryz.func233 rfl rfl rfl rfl (fun w hw => arity_calls _ _ _ (hw.read fun _ _ => trivial)) ?_
      refine Wl.fld ⟨_, 2, none⟩ fl27_2 rfl rfl rfl ?_
      refine Wl.loadb 0 2 t25 rfl rfl rfl rfl ?_
      refine Wl.len Tryz.underlying25 rfl rfl ?_
      refine Wl.neq rfl rfl rfl ?_
      refine Wl.move rfl rfl ?_
      refine Wl.splitp 12 rfl (fun h12 => ?_) (fun h12 => ?_)
      ·
        refine Wl.skip rfl rfl ?_
        refine Wl.skip rfl rfl ?_
        refine Wl.skip rfl rfl ?_
        refine Wl.skip rfl rfl ?_
        refine Wl.skip rfl rfl ?_
        refine Wl.skip rfl rfl ?_
        refine Wl.skip rfl rfl ?_
        refine Wl.skip rfl rfl ?_
        refine Wl.pick_t rfl rfl rfl ?_
        refine Wl.nilq ?_
        refine Wx.then_n ?_
        refine Wc.cond_t rfl ?_
        refine Wc.seq ?_
        refine Wc.region ?_
        refine Wl.assign rfl rfl ?_
        refine Wl.nil ?_
        refine Wx.then_n ?_
        refine Wc.ret ?_
        refine Wx.then_r ?_
        rw [show e.formed = false by rw [Expr.formed_eq]; rw [decide_eq_false h12]; rfl]
        exact Wx.retV rfl rfl
      ·
        refine Wl.fld ⟨_, 1, none⟩ fl27_1 rfl rfl rfl ?_
        refine Wl.loadb 0 1 t2 rfl rfl rfl rfl ?_
        refine Wl.neq rfl rfl rfl ?_
        refine Wl.move rfl rfl ?_
        refine Wl.splitp 16 rfl (fun h16 => ?_) (fun h16 => ?_)
        ·
          refine Wl.fld ⟨_, 0, none⟩ fl27_0 rfl rfl rfl ?_
          refine Wl.loadb 0 0 t3 rfl rfl rfl rfl ?_
          refine Wl.neq rfl rfl rfl ?_
          refine Wl.pick_t rfl rfl rfl ?_
          refine Wl.pick_f rfl rfl rfl ?_
          refine Wl.nilq ?_
          refine Wx.then_n ?_
          refine Wc.condp rfl (fun h21 => ?_) (fun h21 => ?_)
          ·
            refine Wc.seq ?_
            refine Wc.region ?_
            refine Wl.assign rfl rfl ?_
            refine Wl.nil ?_
            refine Wx.then_n ?_
            refine Wc.ret ?_
            refine Wx.then_r ?_
            rw [show e.formed = false by rw [Expr.formed_eq]; rw [decide_eq_false h16, decide_eq_false h21]; simp]
            exact Wx.retV rfl rfl
          ·
            refine Wc.skip ?_
            exact Wx.metS () ⟨rfl, trivial⟩ ⟨by omega, .inr (by omega)⟩ (fun w hw => hw)
        ·
          refine Wl.skip rfl rfl ?_
          refine Wl.skip rfl rfl ?_
          refine Wl.skip rfl rfl ?_
          refine Wl.pick_f rfl rfl rfl ?_
          refine Wl.pick_f rfl rfl rfl ?_
          refine Wl.nilq ?_
          refine Wx.then_n ?_
          refine Wc.cond_f rfl ?_
          refine Wc.skip ?_
          exact Wx.metS () ⟨rfl, trivial⟩ ⟨by omega, .inl (by omega)⟩ (fun w hw => hw)
    ·
      rintro _ ⟨ha, hno⟩
      dsimp only
      refine Wc.seq ?_
      refine Wc.seq ?_
      refine Wc.region ?_
      refine Wl.fld ⟨_, 2, none⟩ fl27_2 rfl rfl rfl ?_
      refine Wl.loadb 0 2 t25 rfl rfl rfl rfl ?_
      refine Wl.len Tryz.underlying25 rfl rfl ?_
      refine Wl.move rfl rfl ?_
      refine Wl.nil ?_
      refine Wx.then_n ?_
      refine Wc.block ?_
      refine Wc.loopS (G := Nat) (fun g => match g with | k => [(23, .slice A e.l.length c), (24, .int .i64 e.l.length), (25, .int .i64 k)]) (fun g => match g with | k => k ≤ e.l.length ∧ Expr.formedL e.l = Expr.formedL (e.l.drop k)) (fun g => match g with | k => []) (fun g => match g with | k => fun w => kExpr.Row w A e.l) (fun g => match g with | k => e.l.length - k) 0 ⟨rfl, rfl, rfl, trivial⟩ ⟨Nat.zero_le _, rfl⟩ (fun w hw => hw.take 0) ?_
      rintro k ⟨hk0, he⟩
      dsimp only
      refine Wc.seq ?_
      refine Wc.region ?_
      refine Wl.lss rfl rfl rfl ?_
      refine Wl.nil ?_
      refine Wx.then_n ?_
      refine Wc.seq ?_
      refine Wc.condp rfl (fun h26 => ?_) (fun h26 => ?_)
      ·
        have hk : k < e.l.length := by omega
        refine Wc.pure (p := ∃ ad, A = some ad) (fun w hw => hw.addr (fun w h => h) (by omega)) ?_
        rintro ⟨ad, rfl⟩
        refine Wc.exS (fun w hw => hw.expr_get (fun w h => h) k hk) ?_
        rintro ⟨A', c'⟩ hc'
        dsimp only at hc' ⊢
        have hcnt := e.count_child k hk
        rw [Expr.formedL_drop e.l k hk] at he
        refine Wc.skip ?_
        refine Wx.then_n ?_
        refine Wc.seq ?_
        refine Wc.block ?_
        refine Wc.seq ?_
        refine Wc.region ?_
        refine Wl.idx Tryz.underlying25 t27 rfl rfl rfl hk ?_
        refine Wl.loadrw (cs := [.int .i64 e.l[k].op, .int .i64 e.l[k].n, .slice A' e.l[k].l.length c']) t27 (fun w h => h.2.1) rfl rfl rfl ?_
        refine Wl.alloc t27 rfl rfl (fun b4 => ?_)
        refine Wl.storew 0 t27 rfl rfl rfl rfl rfl rfl rfl ?_
        refine Wl.nil ?_
        refine Wx.then_n ?_
        refine Wc.seq ?_
        refine Wc.region ?_
        refine Wl.loadbw 0 t27 rfl rfl rfl rfl ?_
        refine Wl.callV [_] Tryz.func213 rfl rfl rfl rfl (fun w hw => ih _ e.l[k] A' c' w (hw.read fun w h => h.2.2) hc' (by omega)) ?_
        refine Wl.not rfl rfl ?_
        refine Wl.nil ?_
        refine Wx.then_n ?_
        refine Wc.cond rfl (fun h31 => ?_) (fun h31 => ?_)
        ·
          refine Wc.seq ?_
          refine Wc.region ?_
          refine Wl.assign rfl rfl ?_
          refine Wl.nil ?_
          refine Wx.then_n ?_
          refine Wc.ret ?_
          refine Wx.block_r ?_
          refine Wx.then_r ?_
          refine Wx.then_r ?_
          refine Wx.block_r ?_
          refine Wx.then_r ?_
          rw [show e.formed = false by rw [Expr.formed_eq]; rw [he, show e.l[k].formed = false by simpa using h31]; simp]
          exact Wx.retV rfl rfl
        ·
          refine Wc.skip ?_
          refine Wx.block_n ?_
          refine Wx.then_n ?_
          refine Wc.region ?_
          refine Wl.add rfl rfl rfl (by omega) ?_
          refine Wl.move rfl rfl ?_
          refine Wl.nil ?_
          exact Wx.againS (k + 1) (by omega) ⟨rfl, rfl, rfl, trivial⟩ ⟨hk, by rw [he, show e.l[k].formed = true by simpa using h31]; rfl⟩ (fun w hw => (hw.take 0).imp fun w h => h.1)
      ·
        refine Wc.exit ?_
        refine Wx.then_e ?_
        refine Wx.then_e ?_
        refine Wx.block_e ?_
        refine Wx.then_n ?_
        refine Wc.seq ?_
        refine Wc.region ?_
        refine Wl.assign rfl rfl ?_
        refine Wl.nil ?_
        refine Wx.then_n ?_
        refine Wc.ret ?_
        obtain rfl : k = e.l.length := by omega
        rw [show e.formed = true by rw [Expr.formed_eq, he, decide_eq_true ha]; rcases hno with h | h <;> simp [h, Expr.formedL]]
        exact Wx.retV rfl rfl

theorem size_calls : ∀ (N : Nat) (m : Nat → Prop) (e : Expr) (A : Option Addr) (c : Nat) (w : World) (hr : Ro m w (fun w => kExpr.Row w A e.l)) (hc : e.l.length ≤ c) (hs : e.count ≤ 1099511627776) (hN : e.count ≤ N),
    Calls Tryz.prog 214 #[.agg #[.int .i64 e.op, .int .i64 e.n, .slice A e.l.length c]] w (PostV m w (.tuple #[.int .i64 e.count, .int .i64 e.deep])) := by
  intro N
  induction N with
  | zero => intro m e A c w hr hc hs hN; exact absurd hN (by have := e.count_pos; omega)
  | succ N ih =>
    intro m e A c w hr hc hs hN
    have hlen : e.l.length ≤ 9223372036854775807 := hr.now.1
    have hce := e.count_eq
    have hde := e.deep_eq
    have hdc := Expr.deepL_le e.l
    refine calls_of_Wc (args := [.agg #[.int .i64 e.op, .int .i64 e.n, .slice A e.l.length c]]) 31 Tryz.func214 rfl rfl (by simp) ?_
    refine Wc.start hr ?_
    refine Wc.seq ?_
    refine Wc.region ?_
    refine Wl.box rfl rfl rfl (fun b1 => ?_)
    refine Wl.assign rfl rfl ?_
    refine Wl.assign rfl rfl ?_
    refine Wl.nil ?_
    refine Wx.then_n ?_
    refine Wc.seq ?_
    refine Wc.seq ?_
    refine Wc.region ?_
    refine Wl.fld ⟨_, 2, none⟩ fl27_2 rfl rfl rfl ?_
    refine Wl.loadb 0 2 t25 rfl rfl rfl rfl ?_
    refine Wl.len Tryz.underlying25 rfl rfl ?_
    refine Wl.move rfl rfl ?_
    refine Wl.nil ?_
    refine Wx.then_n ?_
    refine Wc.block ?_
    refine Wc.loopS (G := Nat × Int × Int) (fun g => match g with | ⟨k, x, y⟩ => [(2, .int .i64 x), (3, .int .i64 y), (9, .slice A e.l.length c), (10, .int .i64 e.l.length), (11, .int .i64 k)]) (fun g => match g with | ⟨k, x, y⟩ => k ≤ e.l.length ∧ x + (Expr.countL (e.l.drop k) : Int) + 1 = e.count ∧ 0 ≤ x ∧ 0 ≤ y ∧ max y (Expr.deepL (e.l.drop k) : Int) = Expr.deepL e.l) (fun g => match g with | ⟨k, x, y⟩ => []) (fun g => match g with | ⟨k, x, y⟩ => fun w => kExpr.Row w A e.l) (fun g => match g with | ⟨k, x, y⟩ => e.l.length - k) ⟨0, 0, 0⟩ ⟨rfl, rfl, rfl, rfl, rfl, trivial⟩ ⟨Nat.zero_le _, by rw [hce]; simp; omega, by omega, by omega, by simp⟩ (fun w hw => hw.take 0) ?_
    rintro ⟨k, x, y⟩ ⟨hk0, h1, h0, h00, h2⟩
    dsimp only
    refine Wc.seq ?_
    refine Wc.region ?_
    refine Wl.lss rfl rfl rfl ?_
    refine Wl.nil ?_
    refine Wx.then_n ?_
    refine Wc.seq ?_
    refine Wc.condp rfl (fun h12 => ?_) (fun h12 => ?_)
    ·
      have hk : k < e.l.length := by omega
      refine Wc.pure (p := ∃ ad, A = some ad) (fun w hw => hw.addr (fun w h => h) (by omega)) ?_
      rintro ⟨ad, rfl⟩
      refine Wc.exS (fun w hw => hw.expr_get (fun w h => h) k hk) ?_
      rintro ⟨A', c'⟩ hc'
      dsimp only at hc' ⊢
      have hcnt := e.count_child k hk
      rw [Expr.countL_drop e.l k hk] at h1
      rw [Expr.deepL_drop e.l k hk] at h2
      have hdk := e.l[k].deep_le
      refine Wc.skip ?_
      refine Wx.then_n ?_
      refine Wc.seq ?_
      refine Wc.block ?_
      refine Wc.seq ?_
      refine Wc.region ?_
      refine Wl.idx Tryz.underlying25 t27 rfl rfl rfl hk ?_
      refine Wl.loadrw (cs := [.int .i64 e.l[k].op, .int .i64 e.l[k].n, .slice A' e.l[k].l.length c']) t27 (fun w h => h.2.1) rfl rfl rfl ?_
      refine Wl.alloc t27 rfl rfl (fun b5 => ?_)
      refine Wl.storew 0 t27 rfl rfl rfl rfl rfl rfl rfl ?_
      refine Wl.nil ?_
      refine Wx.then_n ?_
      refine Wc.seq ?_
      refine Wc.region ?_
      refine Wl.loadbw 0 t27 rfl rfl rfl rfl ?_
      refine Wl.callV [_] Tryz.func214 rfl rfl rfl rfl (fun w hw => ih _ e.l[k] A' c' w (hw.read fun w h => h.2.2) hc' (by omega) (by omega)) ?_
      refine Wl.move rfl rfl ?_
      refine Wl.extract rfl rfl rfl ?_
      refine Wl.extract rfl rfl rfl ?_
      refine Wl.assign rfl rfl ?_
      refine Wl.assign rfl rfl ?_
      refine Wl.nil ?_
      refine Wx.then_n ?_
      refine Wc.region ?_
      refine Wl.move rfl rfl ?_
      refine Wl.move rfl rfl ?_
      refine Wl.add rfl rfl rfl (by omega) ?_
      refine Wl.move rfl rfl ?_
      refine Wl.move rfl rfl ?_
      refine Wl.maxi rfl rfl rfl ?_
      refine Wl.assign rfl rfl ?_
      refine Wl.assign rfl rfl ?_
      refine Wl.nil ?_
      refine Wx.block_n ?_
      refine Wx.then_n ?_
      refine Wc.region ?_
      refine Wl.add rfl rfl rfl (by omega) ?_
      refine Wl.move rfl rfl ?_
      refine Wl.nil ?_
      exact Wx.againS ⟨k + 1, x + e.l[k].count, max y e.l[k].deep⟩ (by dsimp only; omega) ⟨rfl, rfl, rfl, rfl, rfl, trivial⟩ ⟨hk, by dsimp only; omega, by dsimp only; omega, by dsimp only; omega, by dsimp only; omega⟩ (fun w hw => (hw.take 0).imp fun w h => h.1)
    ·
      refine Wc.exit ?_
      refine Wx.then_e ?_
      refine Wx.then_e ?_
      refine Wx.block_e ?_
      refine Wx.then_n ?_
      refine Wc.seq ?_
      refine Wc.region ?_
      refine Wl.move rfl rfl ?_
      refine Wl.add rfl rfl rfl (by omega) ?_
      refine Wl.move rfl rfl ?_
      refine Wl.add rfl rfl rfl (by omega) ?_
      refine Wl.assign rfl rfl ?_
      refine Wl.assign rfl rfl ?_
      refine Wl.nil ?_
      refine Wx.then_n ?_
      refine Wc.ret ?_
      obtain rfl : k = e.l.length := by omega
      rw [List.drop_length] at h1 h2
      simp only [Expr.countL, Expr.deepL] at h1 h2
      rw [show (e.count : Int) = x + 1 by omega, show (e.deep : Int) = y + 1 by omega]
      exact Wx.retV2 rfl rfl rfl

theorem check_calls (m : Nat → Prop) (e : Expr) (A : Option Addr) (c : Nat) (w : World) (hr : Ro m w (fun w => kExpr.Row w A e.l)) (hc : e.l.length ≤ c) (hs : e.count ≤ 1099511627776) :
    Calls Tryz.prog 187 #[.agg #[.int .i64 e.op, .int .i64 e.n, .slice A e.l.length c]] w (PostV m w (.int .i64 e.check)) := by
  refine calls_of_Wc (args := [.agg #[.int .i64 e.op, .int .i64 e.n, .slice A e.l.length c]]) 19 Tryz.func187 rfl rfl (by simp) ?_
  refine Wc.start hr ?_
  refine Wc.seq ?_
  refine Wc.region ?_
  refine Wl.box rfl rfl rfl (fun b1 => ?_)
  refine Wl.assign rfl rfl ?_
  refine Wl.nil ?_
  refine Wx.then_n ?_
  refine Wc.seq ?_
  refine Wc.seq ?_
  refine Wc.region ?_
  refine Wl.loadbw 0 t27 rfl rfl rfl rfl ?_
  refine Wl.callV [_] Tryz.func213 rfl rfl rfl rfl (fun w hw => right_calls e.count _ e A c w (hw.read fun w h => h) hc (Nat.le_refl _)) ?_
  refine Wl.not rfl rfl ?_
  refine Wl.nil ?_
  refine Wx.then_n ?_
  refine Wc.cond rfl (fun h7 => ?_) (fun h7 => ?_)
  ·
    refine Wc.seq ?_
    refine Wc.region ?_
    refine Wl.assign rfl rfl ?_
    refine Wl.nil ?_
    refine Wx.then_n ?_
    refine Wc.ret ?_
    refine Wx.then_r ?_
    exact Wx.retI rfl rfl (by unfold Expr.check; rw [show e.formed = false by simpa using h7]; rfl)
  ·
    refine Wc.skip ?_
    refine Wx.then_n ?_
    refine Wc.seq ?_
    refine Wc.seq ?_
    refine Wc.region ?_
    refine Wl.loadbw 0 t27 rfl rfl rfl rfl ?_
    refine Wl.callV [_] Tryz.func214 rfl rfl rfl rfl (fun w hw => size_calls e.count _ e A c w (hw.read fun w h => h) hc hs (Nat.le_refl _)) ?_
    refine Wl.move rfl rfl ?_
    refine Wl.extract rfl rfl rfl ?_
    refine Wl.extract rfl rfl rfl ?_
    refine Wl.assign rfl rfl ?_
    refine Wl.assign rfl rfl ?_
    refine Wl.nil ?_
    refine Wx.then_n ?_
    refine Wc.seq ?_
    refine Wc.region ?_
    refine Wl.move rfl rfl ?_
    refine Wl.gtr rfl rfl rfl ?_
    refine Wl.move rfl rfl ?_
    refine Wl.splitp 15 rfl (fun h15 => ?_) (fun h15 => ?_)
    ·
      refine Wl.skip rfl rfl ?_
      refine Wl.skip rfl rfl ?_
      refine Wl.pick_t rfl rfl rfl ?_
      refine Wl.nil ?_
      refine Wx.then_n ?_
      refine Wc.cond_t rfl ?_
      refine Wc.seq ?_
      refine Wc.region ?_
      refine Wl.assign rfl rfl ?_
      refine Wl.nil ?_
      refine Wx.then_n ?_
      refine Wc.ret ?_
      refine Wx.then_r ?_
      exact Wx.retI rfl rfl (by unfold Expr.check; rw [show e.formed = true by simpa using h7, if_pos rfl]; split <;> omega)
    ·
      refine Wl.move rfl rfl ?_
      refine Wl.gtr rfl rfl rfl ?_
      refine Wl.pick_f rfl rfl rfl ?_
      refine Wl.nil ?_
      refine Wx.then_n ?_
      refine Wc.condp rfl (fun h18 => ?_) (fun h18 => ?_)
      ·
        refine Wc.seq ?_
        refine Wc.region ?_
        refine Wl.assign rfl rfl ?_
        refine Wl.nil ?_
        refine Wx.then_n ?_
        refine Wc.ret ?_
        refine Wx.then_r ?_
        exact Wx.retI rfl rfl (by unfold Expr.check; rw [show e.formed = true by simpa using h7, if_pos rfl]; split <;> omega)
      ·
        refine Wc.skip ?_
        refine Wx.then_n ?_
        refine Wc.seq ?_
        refine Wc.region ?_
        refine Wl.assign rfl rfl ?_
        refine Wl.nil ?_
        refine Wx.then_n ?_
        refine Wc.ret ?_
        exact Wx.retI rfl rfl (by unfold Expr.check; rw [show e.formed = true by simpa using h7, if_pos rfl]; split <;> omega)

theorem truth_calls (m : Nat → Prop) (b : Bool) (w : World) (hr : Ro m w (fun _ => True)) :
    Calls Tryz.prog 215 #[.bool b] w (PostV m w (.int .i64 (truth b))) := by
  refine calls_of_Wc (args := [.bool b]) 4 Tryz.func215 rfl rfl (by simp) ?_
  refine Wc.start hr ?_
  refine Wc.seq ?_
  refine Wc.region ?_
  refine Wl.assign rfl rfl ?_
  refine Wl.nil ?_
  refine Wx.then_n ?_
  refine Wc.seq ?_
  refine Wc.seq ?_
  refine Wc.region ?_
  refine Wl.move rfl rfl ?_
  refine Wl.nil ?_
  refine Wx.then_n ?_
  refine Wc.cond rfl (fun h3 => ?_) (fun h3 => ?_)
  ·
    refine Wc.seq ?_
    refine Wc.region ?_
    refine Wl.assign rfl rfl ?_
    refine Wl.nil ?_
    refine Wx.then_n ?_
    refine Wc.ret ?_
    refine Wx.then_r ?_
    exact Wx.retI rfl rfl (by rw [h3]; rfl)
  ·
    refine Wc.skip ?_
    refine Wx.then_n ?_
    refine Wc.seq ?_
    refine Wc.region ?_
    refine Wl.assign rfl rfl ?_
    refine Wl.nil ?_
    refine Wx.then_n ?_
    refine Wc.ret ?_
    exact Wx.retI rfl rfl (by rw [h3]; rfl)

theorem zero7_calls (m : Nat → Prop) (e : Expr) (A : Option Addr) (c : Nat) (w : World) (hr : Ro m w (fun w => kExpr.Row w A e.l)) (hc : e.l.length ≤ c) :
    Calls Tryz.prog 186 #[.agg #[.int .i64 e.op, .int .i64 e.n, .slice A e.l.length c]] w (PostV m w (.bool e.zero)) := by
  refine calls_of_Wc (args := [.agg #[.int .i64 e.op, .int .i64 e.n, .slice A e.l.length c]]) 17 Tryz.func186 rfl rfl (by simp) ?_
  refine Wc.start hr ?_
  refine Wc.seq ?_
  refine Wc.region ?_
  refine Wl.box rfl rfl rfl (fun b1 => ?_)
  refine Wl.assign rfl rfl ?_
  refine Wl.nil ?_
  refine Wx.then_n ?_
  refine Wc.seq ?_
  refine Wc.region ?_
  refine Wl.fld ⟨_, 0, none⟩ fl27_0 rfl rfl rfl ?_
  refine Wl.loadb 0 0 t3 rfl rfl rfl rfl ?_
  refine Wl.eql rfl rfl rfl ?_
  refine Wl.move rfl rfl ?_
  refine Wl.splitp 6 rfl (fun h6 => ?_) (fun h6 => ?_)
  ·
    refine Wl.fld ⟨_, 1, none⟩ fl27_1 rfl rfl rfl ?_
    refine Wl.loadb 0 1 t2 rfl rfl rfl rfl ?_
    refine Wl.eql rfl rfl rfl ?_
    refine Wl.pick_t rfl rfl rfl ?_
    refine Wl.move rfl rfl ?_
    refine Wl.splitp 11 rfl (fun h11 => ?_) (fun h11 => ?_)
    ·
      refine Wl.fld ⟨_, 2, none⟩ fl27_2 rfl rfl rfl ?_
      refine Wl.loadb 0 2 t25 rfl rfl rfl rfl ?_
      refine Wl.len Tryz.underlying25 rfl rfl ?_
      refine Wl.eql rfl rfl rfl ?_
      refine Wl.pick_t rfl rfl rfl ?_
      refine Wl.assign rfl rfl ?_
      refine Wl.nil ?_
      refine Wx.then_n ?_
      refine Wc.ret ?_
      exact Wx.retB rfl rfl (by simp [Expr.zero, *])
    ·
      refine Wl.skip rfl rfl ?_
      refine Wl.skip rfl rfl ?_
      refine Wl.skip rfl rfl ?_
      refine Wl.skip rfl rfl ?_
      refine Wl.pick_f rfl rfl rfl ?_
      refine Wl.assign rfl rfl ?_
      refine Wl.nil ?_
      refine Wx.then_n ?_
      refine Wc.ret ?_
      exact Wx.retB rfl rfl (by simp [Expr.zero, *])
  ·
    refine Wl.skip rfl rfl ?_
    refine Wl.skip rfl rfl ?_
    refine Wl.skip rfl rfl ?_
    refine Wl.pick_f rfl rfl rfl ?_
    refine Wl.move rfl rfl ?_
    refine Wl.skip rfl rfl ?_
    refine Wl.skip rfl rfl ?_
    refine Wl.skip rfl rfl ?_
    refine Wl.skip rfl rfl ?_
    refine Wl.pick_f rfl rfl rfl ?_
    refine Wl.assign rfl rfl ?_
    refine Wl.nil ?_
    refine Wx.then_n ?_
    refine Wc.ret ?_
    exact Wx.retB rfl rfl (by simp [Expr.zero, *])

theorem zero_calls (m : Nat → Prop) (e : Expr) (A : Option Addr) (c : Nat) (w : World) (hr : Ro m w (fun w => kExpr.Row w A e.l)) (hc : e.l.length ≤ c) :
    Calls Tryz.prog 227 #[.agg #[.int .i64 e.op, .int .i64 e.n, .slice A e.l.length c]] w (PostV m w (.bool e.zero)) := by
  refine calls_of_Wc (args := [.agg #[.int .i64 e.op, .int .i64 e.n, .slice A e.l.length c]]) 17 Tryz.func227 rfl rfl (by simp) ?_
  refine Wc.start hr ?_
  refine Wc.seq ?_
  refine Wc.region ?_
  refine Wl.box rfl rfl rfl (fun b1 => ?_)
  refine Wl.assign rfl rfl ?_
  refine Wl.nil ?_
  refine Wx.then_n ?_
  refine Wc.seq ?_
  refine Wc.region ?_
  refine Wl.fld ⟨_, 0, none⟩ fl27_0 rfl rfl rfl ?_
  refine Wl.loadb 0 0 t3 rfl rfl rfl rfl ?_
  refine Wl.eql rfl rfl rfl ?_
  refine Wl.move rfl rfl ?_
  refine Wl.splitp 6 rfl (fun h6 => ?_) (fun h6 => ?_)
  ·
    refine Wl.fld ⟨_, 1, none⟩ fl27_1 rfl rfl rfl ?_
    refine Wl.loadb 0 1 t2 rfl rfl rfl rfl ?_
    refine Wl.eql rfl rfl rfl ?_
    refine Wl.pick_t rfl rfl rfl ?_
    refine Wl.move rfl rfl ?_
    refine Wl.splitp 11 rfl (fun h11 => ?_) (fun h11 => ?_)
    ·
      refine Wl.fld ⟨_, 2, none⟩ fl27_2 rfl rfl rfl ?_
      refine Wl.loadb 0 2 t25 rfl rfl rfl rfl ?_
      refine Wl.len Tryz.underlying25 rfl rfl ?_
      refine Wl.eql rfl rfl rfl ?_
      refine Wl.pick_t rfl rfl rfl ?_
      refine Wl.assign rfl rfl ?_
      refine Wl.nil ?_
      refine Wx.then_n ?_
      refine Wc.ret ?_
      exact Wx.retB rfl rfl (by simp [Expr.zero, *])
    ·
      refine Wl.skip rfl rfl ?_
      refine Wl.skip rfl rfl ?_
      refine Wl.skip rfl rfl ?_
      refine Wl.skip rfl rfl ?_
      refine Wl.pick_f rfl rfl rfl ?_
      refine Wl.assign rfl rfl ?_
      refine Wl.nil ?_
      refine Wx.then_n ?_
      refine Wc.ret ?_
      exact Wx.retB rfl rfl (by simp [Expr.zero, *])
  ·
    refine Wl.skip rfl rfl ?_
    refine Wl.skip rfl rfl ?_
    refine Wl.skip rfl rfl ?_
    refine Wl.pick_f rfl rfl rfl ?_
    refine Wl.move rfl rfl ?_
    refine Wl.skip rfl rfl ?_
    refine Wl.skip rfl rfl ?_
    refine Wl.skip rfl rfl ?_
    refine Wl.skip rfl rfl ?_
    refine Wl.pick_f rfl rfl rfl ?_
    refine Wl.assign rfl rfl ?_
    refine Wl.nil ?_
    refine Wx.then_n ?_
    refine Wc.ret ?_
    exact Wx.retB rfl rfl (by simp [Expr.zero, *])

set_option maxHeartbeats 2000000 in
theorem eval_calls : ∀ (N : Nat) (m : Nat → Prop) (e : Expr) (A : Option Addr) (c : Nat) (r : Rec) (w : World) (hr : Ro m w (fun w => kExpr.Row w A e.l)) (hc : e.l.length ≤ c) (hf : e.formed = true) (hN : e.count ≤ N),
    Calls Tryz.prog 188 #[.agg #[.int .i64 e.op, .int .i64 e.n, .slice A e.l.length c], .agg #[.int .i64 r.key, .int .i64 r.time, .int .i64 r.val]] w (PostV m w (.int .i64 (e.eval r))) := by
  intro N
  induction N with
  | zero => intro m e A c r w hr hc hf hN; exact absurd hN (by have := e.count_pos; omega)
  | succ N ih =>
    intro m e A c r w hr hc hf hN
    refine calls_of_Wc (args := [.agg #[.int .i64 e.op, .int .i64 e.n, .slice A e.l.length c], .agg #[.int .i64 r.key, .int .i64 r.time, .int .i64 r.val]]) 105 Tryz.func188 rfl rfl (by simp) ?_
    refine Wc.start hr ?_
    refine Wc.seq ?_
    refine Wc.region ?_
    refine Wl.box rfl rfl rfl (fun b2 => ?_)
    refine Wl.box rfl rfl rfl (fun b3 => ?_)
    refine Wl.assign rfl rfl ?_
    refine Wl.nil ?_
    refine Wx.then_n ?_
    refine Wc.seq ?_
    refine Wc.seq ?_
    refine Wc.region ?_
    refine Wl.fld ⟨_, 0, none⟩ fl27_0 rfl rfl rfl ?_
    refine Wl.loadb 0 0 t3 rfl rfl rfl rfl ?_
    refine Wl.nil ?_
    refine Wx.then_n ?_
    refine Wc.block ?_
    refine Wc.seq ?_
    refine Wc.region ?_
    refine Wl.eql rfl rfl rfl ?_
    refine Wl.assign rfl rfl ?_
    refine Wl.nil ?_
    refine Wx.then_n ?_
    refine Wc.condp rfl (fun h9 => ?_) (fun h9 => ?_)
    ·
      refine Wc.seq ?_
      refine Wc.region ?_
      refine Wl.fld ⟨_, 1, none⟩ fl27_1 rfl rfl rfl ?_
      refine Wl.loadb 0 1 t2 rfl rfl rfl rfl ?_
      refine Wl.assign rfl rfl ?_
      refine Wl.nil ?_
      refine Wx.then_n ?_
      refine Wc.ret ?_
      refine Wx.block_r ?_
      refine Wx.then_r ?_
      exact Wx.retI rfl rfl (by rw [Expr.eval_eq e]; unfold evalOp; dsimp only; (repeat' split) <;> first | omega | rfl)
    ·
      refine Wc.seq ?_
      refine Wc.region ?_
      refine Wl.eql rfl rfl rfl ?_
      refine Wl.assign rfl rfl ?_
      refine Wl.nil ?_
      refine Wx.then_n ?_
      refine Wc.condp rfl (fun h13 => ?_) (fun h13 => ?_)
      ·
        refine Wc.seq ?_
        refine Wc.region ?_
        refine Wl.fld ⟨_, 0, none⟩ fl70_0 rfl rfl rfl ?_
        refine Wl.loadb 1 0 t2 rfl rfl rfl rfl ?_
        refine Wl.assign rfl rfl ?_
        refine Wl.nil ?_
        refine Wx.then_n ?_
        refine Wc.ret ?_
        refine Wx.block_r ?_
        refine Wx.then_r ?_
        exact Wx.retI rfl rfl (by rw [Expr.eval_eq e]; unfold evalOp; dsimp only; (repeat' split) <;> first | omega | rfl)
      ·
        refine Wc.seq ?_
        refine Wc.region ?_
        refine Wl.eql rfl rfl rfl ?_
        refine Wl.assign rfl rfl ?_
        refine Wl.nil ?_
        refine Wx.then_n ?_
        refine Wc.condp rfl (fun h17 => ?_) (fun h17 => ?_)
        ·
          refine Wc.seq ?_
          refine Wc.region ?_
          refine Wl.fld ⟨_, 1, none⟩ fl70_1 rfl rfl rfl ?_
          refine Wl.loadb 1 1 t2 rfl rfl rfl rfl ?_
          refine Wl.assign rfl rfl ?_
          refine Wl.nil ?_
          refine Wx.then_n ?_
          refine Wc.ret ?_
          refine Wx.block_r ?_
          refine Wx.then_r ?_
          exact Wx.retI rfl rfl (by rw [Expr.eval_eq e]; unfold evalOp; dsimp only; (repeat' split) <;> first | omega | rfl)
        ·
          refine Wc.seq ?_
          refine Wc.region ?_
          refine Wl.eql rfl rfl rfl ?_
          refine Wl.assign rfl rfl ?_
          refine Wl.nil ?_
          refine Wx.then_n ?_
          refine Wc.condp rfl (fun h21 => ?_) (fun h21 => ?_)
          ·
            refine Wc.seq ?_
            refine Wc.region ?_
            refine Wl.fld ⟨_, 2, none⟩ fl70_2 rfl rfl rfl ?_
            refine Wl.loadb 1 2 t2 rfl rfl rfl rfl ?_
            refine Wl.assign rfl rfl ?_
            refine Wl.nil ?_
            refine Wx.then_n ?_
            refine Wc.ret ?_
            refine Wx.block_r ?_
            refine Wx.then_r ?_
            exact Wx.retI rfl rfl (by rw [Expr.eval_eq e]; unfold evalOp; dsimp only; (repeat' split) <;> first | omega | rfl)
          ·
            refine Wc.seq ?_
            refine Wc.region ?_
            refine Wl.eql rfl rfl rfl ?_
            refine Wl.assign rfl rfl ?_
            refine Wl.nil ?_
            refine Wx.then_n ?_
            refine Wc.condp rfl (fun h25 => ?_) (fun h25 => ?_)
            ·
              refine Wc.seq ?_
              refine Wc.seq ?_
              have hlen : (e.l.length : Int) = arity e.op := (e.formed_arity hf).symm
              have hlen3 : e.l.length = 3 := by unfold arity at hlen; (repeat' split at hlen) <;> omega
              refine Wc.pure (p := ∃ ad, A = some ad) (fun w hw => hw.addr (fun w h => h) (by omega)) ?_
              rintro ⟨ad, rfl⟩
              refine Wc.exS (fun w hw => hw.expr_get (fun w h => h) 0 (by omega)) ?_
              rintro ⟨A0, c0⟩ hc0
              dsimp only at hc0 ⊢
              have hcnt0 := e.count_child 0 (by omega)
              have hf0 := e.formed_child hf 0 (by omega)
              have e0 : ((e.l[0]?).map (·.eval r)).getD 0 = e.l[0].eval r := by rw [List.getElem?_eq_getElem (by omega)]; rfl
              refine Wc.exS (fun w hw => hw.expr_get (fun w h => h.1) 1 (by omega)) ?_
              rintro ⟨A1, c1⟩ hc1
              dsimp only at hc1 ⊢
              have hcnt1 := e.count_child 1 (by omega)
              have hf1 := e.formed_child hf 1 (by omega)
              have e1 : ((e.l[1]?).map (·.eval r)).getD 0 = e.l[1].eval r := by rw [List.getElem?_eq_getElem (by omega)]; rfl
              refine Wc.exS (fun w hw => hw.expr_get (fun w h => h.1.1) 2 (by omega)) ?_
              rintro ⟨A2, c2⟩ hc2
              dsimp only at hc2 ⊢
              have hcnt2 := e.count_child 2 (by omega)
              have hf2 := e.formed_child hf 2 (by omega)
              have e2 : ((e.l[2]?).map (·.eval r)).getD 0 = e.l[2].eval r := by rw [List.getElem?_eq_getElem (by omega)]; rfl
              refine Wc.draw mixed (by kernel_rfl) (fun w hw => hw.drew) ?_
              refine Wl.fld ⟨_, 2, none⟩ fl27_2 rfl rfl rfl ?_
              refine Wl.loadb 0 2 t25 rfl rfl rfl rfl ?_
              refine Wl.idx (j := 0) Tryz.underlying25 t27 rfl rfl rfl (by omega) ?_
              refine Wl.loadrw (cs := [.int .i64 e.l[0].op, .int .i64 e.l[0].n, .slice A0 e.l[0].l.length c0]) t27 (fun w h => h.1.1.2.1) rfl rfl rfl ?_
              refine Wl.loadbw 1 t70 rfl rfl rfl rfl ?_
              refine Wl.callV [_, _] Tryz.func188 rfl rfl rfl rfl (fun w hw => ih _ e.l[0] A0 c0 r w (hw.read fun w h => h.1.1.2.2) hc0 hf0 (by omega)) ?_
              refine Wl.neq rfl rfl rfl ?_
              refine Wl.nilq ?_
              refine Wx.then_n ?_
              refine Wc.condp rfl (fun h33 => ?_) (fun h33 => ?_)
              ·
                refine Wc.seq ?_
                refine Wc.draw mixed (by kernel_rfl) (fun w hw => hw.drew) ?_
                refine Wl.fld ⟨_, 2, none⟩ fl27_2 rfl rfl rfl ?_
                refine Wl.loadb 0 2 t25 rfl rfl rfl rfl ?_
                refine Wl.idx (j := 1) Tryz.underlying25 t27 rfl rfl rfl (by omega) ?_
                refine Wl.loadrw (cs := [.int .i64 e.l[1].op, .int .i64 e.l[1].n, .slice A1 e.l[1].l.length c1]) t27 (fun w h => h.1.2.1) rfl rfl rfl ?_
                refine Wl.loadbw 1 t70 rfl rfl rfl rfl ?_
                refine Wl.callV [_, _] Tryz.func188 rfl rfl rfl rfl (fun w hw => ih _ e.l[1] A1 c1 r w (hw.read fun w h => h.1.2.2) hc1 hf1 (by omega)) ?_
                refine Wl.assign rfl rfl ?_
                refine Wl.nilq ?_
                refine Wx.then_n ?_
                refine Wc.ret ?_
                refine Wx.then_r ?_
                refine Wx.block_r ?_
                refine Wx.then_r ?_
                exact Wx.retI rfl rfl (by rw [Expr.eval_eq e]; unfold evalOp; dsimp only; simp only [e0, e1, e2]; (repeat' split) <;> first | omega | rfl)
              ·
                refine Wc.skip ?_
                refine Wx.then_n ?_
                refine Wc.seq ?_
                refine Wc.draw mixed (by kernel_rfl) (fun w hw => hw.drew) ?_
                refine Wl.fld ⟨_, 2, none⟩ fl27_2 rfl rfl rfl ?_
                refine Wl.loadb 0 2 t25 rfl rfl rfl rfl ?_
                refine Wl.idx (j := 2) Tryz.underlying25 t27 rfl rfl rfl (by omega) ?_
                refine Wl.loadrw (cs := [.int .i64 e.l[2].op, .int .i64 e.l[2].n, .slice A2 e.l[2].l.length c2]) t27 (fun w h => h.2.1) rfl rfl rfl ?_
                refine Wl.loadbw 1 t70 rfl rfl rfl rfl ?_
                refine Wl.callV [_, _] Tryz.func188 rfl rfl rfl rfl (fun w hw => ih _ e.l[2] A2 c2 r w (hw.read fun w h => h.2.2) hc2 hf2 (by omega)) ?_
                refine Wl.assign rfl rfl ?_
                refine Wl.nilq ?_
                refine Wx.then_n ?_
                refine Wc.ret ?_
                refine Wx.block_r ?_
                refine Wx.then_r ?_
                exact Wx.retI rfl rfl (by rw [Expr.eval_eq e]; unfold evalOp; dsimp only; simp only [e0, e1, e2]; (repeat' split) <;> first | omega | rfl)
            ·
              refine Wc.skip ?_
              refine Wx.block_n ?_
              refine Wx.then_n ?_
              refine Wc.seq ?_
              have hlen : (e.l.length : Int) = arity e.op := (e.formed_arity hf).symm
              have hlen3 : e.l.length = 2 := by unfold arity at hlen; (repeat' split at hlen) <;> omega
              refine Wc.pure (p := ∃ ad, A = some ad) (fun w hw => hw.addr (fun w h => h) (by omega)) ?_
              rintro ⟨ad, rfl⟩
              refine Wc.exS (fun w hw => hw.expr_get (fun w h => h) 0 (by omega)) ?_
              rintro ⟨A0, c0⟩ hc0
              dsimp only at hc0 ⊢
              have hcnt0 := e.count_child 0 (by omega)
              have hf0 := e.formed_child hf 0 (by omega)
              have e0 : ((e.l[0]?).map (·.eval r)).getD 0 = e.l[0].eval r := by rw [List.getElem?_eq_getElem (by omega)]; rfl
              refine Wc.exS (fun w hw => hw.expr_get (fun w h => h.1) 1 (by omega)) ?_
              rintro ⟨A1, c1⟩ hc1
              dsimp only at hc1 ⊢
              have hcnt1 := e.count_child 1 (by omega)
              have hf1 := e.formed_child hf 1 (by omega)
              have e1 : ((e.l[1]?).map (·.eval r)).getD 0 = e.l[1].eval r := by rw [List.getElem?_eq_getElem (by omega)]; rfl
              refine Wc.draw mixed (by kernel_rfl) (fun w hw => hw.drew) ?_
              refine Wl.fld ⟨_, 2, none⟩ fl27_2 rfl rfl rfl ?_
              refine Wl.loadb 0 2 t25 rfl rfl rfl rfl ?_
              refine Wl.idx (j := 0) Tryz.underlying25 t27 rfl rfl rfl (by omega) ?_
              refine Wl.loadrw (cs := [.int .i64 e.l[0].op, .int .i64 e.l[0].n, .slice A0 e.l[0].l.length c0]) t27 (fun w h => h.1.2.1) rfl rfl rfl ?_
              refine Wl.loadbw 1 t70 rfl rfl rfl rfl ?_
              refine Wl.callV [_, _] Tryz.func188 rfl rfl rfl rfl (fun w hw => ih _ e.l[0] A0 c0 r w (hw.read fun w h => h.1.2.2) hc0 hf0 (by omega)) ?_
              refine Wl.fld ⟨_, 2, none⟩ fl27_2 rfl rfl rfl ?_
              refine Wl.loadb 0 2 t25 rfl rfl rfl rfl ?_
              refine Wl.idx (j := 1) Tryz.underlying25 t27 rfl rfl rfl (by omega) ?_
              refine Wl.loadrw (cs := [.int .i64 e.l[1].op, .int .i64 e.l[1].n, .slice A1 e.l[1].l.length c1]) t27 (fun w h => h.2.1) rfl rfl rfl ?_
              refine Wl.loadbw 1 t70 rfl rfl rfl rfl ?_
              refine Wl.callV [_, _] Tryz.func188 rfl rfl rfl rfl (fun w hw => ih _ e.l[1] A1 c1 r w (hw.read fun w h => h.2.2) hc1 hf1 (by omega)) ?_
              refine Wl.assign rfl rfl ?_
              refine Wl.assign rfl rfl ?_
              refine Wl.nilq ?_
              refine Wx.then_n ?_
              refine Wc.seq ?_
              refine Wc.seq ?_
              refine Wc.region ?_
              refine Wl.fld ⟨_, 0, none⟩ fl27_0 rfl rfl rfl ?_
              refine Wl.loadb 0 0 t3 rfl rfl rfl rfl ?_
              refine Wl.nil ?_
              refine Wx.then_n ?_
              refine Wc.block ?_
              refine Wc.seq ?_
              refine Wc.region ?_
              refine Wl.eql rfl rfl rfl ?_
              refine Wl.assign rfl rfl ?_
              refine Wl.nil ?_
              refine Wx.then_n ?_
              refine Wc.condp rfl (fun h60 => ?_) (fun h60 => ?_)
              ·
                refine Wc.seq ?_
                refine Wc.region ?_
                refine Wl.move rfl rfl ?_
                refine Wl.move rfl rfl ?_
                refine Wl.addw rfl rfl rfl ?_
                refine Wl.assign rfl rfl ?_
                refine Wl.nil ?_
                refine Wx.then_n ?_
                refine Wc.ret ?_
                refine Wx.block_r ?_
                refine Wx.then_r ?_
                exact Wx.retI rfl rfl (by rw [Expr.eval_eq e]; unfold evalOp; dsimp only; simp only [e0, e1]; (repeat' split) <;> first | omega | rfl)
              ·
                refine Wc.seq ?_
                refine Wc.region ?_
                refine Wl.eql rfl rfl rfl ?_
                refine Wl.assign rfl rfl ?_
                refine Wl.nil ?_
                refine Wx.then_n ?_
                refine Wc.condp rfl (fun h65 => ?_) (fun h65 => ?_)
                ·
                  refine Wc.seq ?_
                  refine Wc.region ?_
                  refine Wl.move rfl rfl ?_
                  refine Wl.move rfl rfl ?_
                  refine Wl.subw rfl rfl rfl ?_
                  refine Wl.assign rfl rfl ?_
                  refine Wl.nil ?_
                  refine Wx.then_n ?_
                  refine Wc.ret ?_
                  refine Wx.block_r ?_
                  refine Wx.then_r ?_
                  exact Wx.retI rfl rfl (by rw [Expr.eval_eq e]; unfold evalOp; dsimp only; simp only [e0, e1]; (repeat' split) <;> first | omega | rfl)
                ·
                  refine Wc.seq ?_
                  refine Wc.region ?_
                  refine Wl.eql rfl rfl rfl ?_
                  refine Wl.assign rfl rfl ?_
                  refine Wl.nil ?_
                  refine Wx.then_n ?_
                  refine Wc.condp rfl (fun h70 => ?_) (fun h70 => ?_)
                  ·
                    refine Wc.seq ?_
                    refine Wc.region ?_
                    refine Wl.move rfl rfl ?_
                    refine Wl.move rfl rfl ?_
                    refine Wl.mulw rfl rfl rfl ?_
                    refine Wl.assign rfl rfl ?_
                    refine Wl.nil ?_
                    refine Wx.then_n ?_
                    refine Wc.ret ?_
                    refine Wx.block_r ?_
                    refine Wx.then_r ?_
                    exact Wx.retI rfl rfl (by rw [Expr.eval_eq e]; unfold evalOp; dsimp only; simp only [e0, e1]; (repeat' split) <;> first | omega | rfl)
                  ·
                    refine Wc.seq ?_
                    refine Wc.region ?_
                    refine Wl.eql rfl rfl rfl ?_
                    refine Wl.assign rfl rfl ?_
                    refine Wl.nil ?_
                    refine Wx.then_n ?_
                    refine Wc.condp rfl (fun h75 => ?_) (fun h75 => ?_)
                    ·
                      refine Wc.seq ?_
                      refine Wc.region ?_
                      refine Wl.move rfl rfl ?_
                      refine Wl.move rfl rfl ?_
                      refine Wl.mini rfl rfl rfl ?_
                      refine Wl.assign rfl rfl ?_
                      refine Wl.nil ?_
                      refine Wx.then_n ?_
                      refine Wc.ret ?_
                      refine Wx.block_r ?_
                      refine Wx.then_r ?_
                      exact Wx.retI rfl rfl (by rw [Expr.eval_eq e]; unfold evalOp; dsimp only; simp only [e0, e1]; (repeat' split) <;> first | omega | rfl)
                    ·
                      refine Wc.seq ?_
                      refine Wc.region ?_
                      refine Wl.eql rfl rfl rfl ?_
                      refine Wl.assign rfl rfl ?_
                      refine Wl.nil ?_
                      refine Wx.then_n ?_
                      refine Wc.condp rfl (fun h80 => ?_) (fun h80 => ?_)
                      ·
                        refine Wc.seq ?_
                        refine Wc.region ?_
                        refine Wl.move rfl rfl ?_
                        refine Wl.move rfl rfl ?_
                        refine Wl.maxi rfl rfl rfl ?_
                        refine Wl.assign rfl rfl ?_
                        refine Wl.nil ?_
                        refine Wx.then_n ?_
                        refine Wc.ret ?_
                        refine Wx.block_r ?_
                        refine Wx.then_r ?_
                        exact Wx.retI rfl rfl (by rw [Expr.eval_eq e]; unfold evalOp; dsimp only; simp only [e0, e1]; (repeat' split) <;> first | omega | rfl)
                      ·
                        refine Wc.seq ?_
                        refine Wc.region ?_
                        refine Wl.eql rfl rfl rfl ?_
                        refine Wl.assign rfl rfl ?_
                        refine Wl.nil ?_
                        refine Wx.then_n ?_
                        refine Wc.condp rfl (fun h85 => ?_) (fun h85 => ?_)
                        ·
                          refine Wc.seq ?_
                          refine Wc.region ?_
                          refine Wl.move rfl rfl ?_
                          refine Wl.move rfl rfl ?_
                          refine Wl.bitop rfl rfl rfl (by simp) ?_
                          refine Wl.assign rfl rfl ?_
                          refine Wl.nil ?_
                          refine Wx.then_n ?_
                          refine Wc.ret ?_
                          refine Wx.block_r ?_
                          refine Wx.then_r ?_
                          exact Wx.retI rfl rfl (by rw [Expr.eval_eq e]; unfold evalOp; dsimp only; simp only [e0, e1]; (repeat' split) <;> first | omega | rfl)
                        ·
                          refine Wc.seq ?_
                          refine Wc.region ?_
                          refine Wl.eql rfl rfl rfl ?_
                          refine Wl.assign rfl rfl ?_
                          refine Wl.nil ?_
                          refine Wx.then_n ?_
                          refine Wc.condp rfl (fun h90 => ?_) (fun h90 => ?_)
                          ·
                            refine Wc.seq ?_
                            refine Wc.region ?_
                            refine Wl.move rfl rfl ?_
                            refine Wl.move rfl rfl ?_
                            refine Wl.bitop rfl rfl rfl (by simp) ?_
                            refine Wl.assign rfl rfl ?_
                            refine Wl.nil ?_
                            refine Wx.then_n ?_
                            refine Wc.ret ?_
                            refine Wx.block_r ?_
                            refine Wx.then_r ?_
                            exact Wx.retI rfl rfl (by rw [Expr.eval_eq e]; unfold evalOp; dsimp only; simp only [e0, e1]; (repeat' split) <;> first | omega | rfl)
                          ·
                            refine Wc.seq ?_
                            refine Wc.region ?_
                            refine Wl.eql rfl rfl rfl ?_
                            refine Wl.assign rfl rfl ?_
                            refine Wl.nil ?_
                            refine Wx.then_n ?_
                            refine Wc.condp rfl (fun h95 => ?_) (fun h95 => ?_)
                            ·
                              refine Wc.seq ?_
                              refine Wc.region ?_
                              refine Wl.move rfl rfl ?_
                              refine Wl.move rfl rfl ?_
                              refine Wl.lss rfl rfl rfl ?_
                              refine Wl.callV [_] Tryz.func215 rfl rfl rfl rfl (fun w hw => truth_calls _ _ _ (hw.read fun _ _ => trivial)) ?_
                              refine Wl.assign rfl rfl ?_
                              refine Wl.nil ?_
                              refine Wx.then_n ?_
                              refine Wc.ret ?_
                              refine Wx.block_r ?_
                              refine Wx.then_r ?_
                              exact Wx.retI rfl rfl (by rw [Expr.eval_eq e]; unfold evalOp; dsimp only; simp only [e0, e1]; (repeat' split) <;> first | omega | rfl)
                            ·
                              refine Wc.skip ?_
                              refine Wx.block_n ?_
                              refine Wx.then_n ?_
                              refine Wc.seq ?_
                              refine Wc.region ?_
                              refine Wl.move rfl rfl ?_
                              refine Wl.move rfl rfl ?_
                              refine Wl.eql rfl rfl rfl ?_
                              refine Wl.callV [_] Tryz.func215 rfl rfl rfl rfl (fun w hw => truth_calls _ _ _ (hw.read fun _ _ => trivial)) ?_
                              refine Wl.assign rfl rfl ?_
                              refine Wl.nil ?_
                              refine Wx.then_n ?_
                              refine Wc.ret ?_
                              exact Wx.retI rfl rfl (by rw [Expr.eval_eq e]; unfold evalOp; dsimp only; simp only [e0, e1]; (repeat' split) <;> first | omega | rfl)

theorem value_calls (m : Nat → Prop) (e : Expr) (A : Option Addr) (c : Nat) (r : Rec) (w : World) (hr : Ro m w (fun w => kExpr.Row w A e.l)) (hc : e.l.length ≤ c) (hs : e.count ≤ 1099511627776) :
    Calls Tryz.prog 145 #[.agg #[.int .i64 e.op, .int .i64 e.n, .slice A e.l.length c], .agg #[.int .i64 r.key, .int .i64 r.time, .int .i64 r.val]] w (PostV m w (.int .i64 (e.value r))) := by
  refine calls_of_Wc (args := [.agg #[.int .i64 e.op, .int .i64 e.n, .slice A e.l.length c], .agg #[.int .i64 r.key, .int .i64 r.time, .int .i64 r.val]]) 11 Tryz.func145 rfl rfl (by simp) ?_
  refine Wc.start hr ?_
  refine Wc.seq ?_
  refine Wc.region ?_
  refine Wl.box rfl rfl rfl (fun b2 => ?_)
  refine Wl.box rfl rfl rfl (fun b3 => ?_)
  refine Wl.assign rfl rfl ?_
  refine Wl.nil ?_
  refine Wx.then_n ?_
  refine Wc.seq ?_
  refine Wc.seq ?_
  refine Wc.region ?_
  refine Wl.loadbw 0 t27 rfl rfl rfl rfl ?_
  refine Wl.callV [_] Tryz.func187 rfl rfl rfl rfl (fun w hw => check_calls _ e A c w (hw.read fun w h => h) hc hs) ?_
  refine Wl.neq rfl rfl rfl ?_
  refine Wl.nil ?_
  refine Wx.then_n ?_
  refine Wc.condp rfl (fun h7 => ?_) (fun h7 => ?_)
  ·
    refine Wc.seq ?_
    refine Wc.region ?_
    refine Wl.assign rfl rfl ?_
    refine Wl.nil ?_
    refine Wx.then_n ?_
    refine Wc.ret ?_
    refine Wx.then_r ?_
    exact Wx.retI rfl rfl (by unfold Expr.value; rw [if_neg h7])
  ·
    refine Wc.skip ?_
    refine Wx.then_n ?_
    refine Wc.seq ?_
    refine Wc.region ?_
    refine Wl.loadbw 0 t27 rfl rfl rfl rfl ?_
    refine Wl.loadbw 1 t70 rfl rfl rfl rfl ?_
    refine Wl.callV [_, _] Tryz.func188 rfl rfl rfl rfl (fun w hw => eval_calls e.count _ e A c r w (hw.read fun w h => h) hc (by have := Decidable.not_not.1 h7; unfold Expr.check at this; split at this <;> first | assumption | omega) (Nat.le_refl _)) ?_
    refine Wl.assign rfl rfl ?_
    refine Wl.nil ?_
    refine Wx.then_n ?_
    refine Wc.ret ?_
    exact Wx.retI rfl rfl (by unfold Expr.value; rw [if_pos (Decidable.not_not.1 h7)])

end Go.Proofs.YtkffjbijamfnoaaGreat
