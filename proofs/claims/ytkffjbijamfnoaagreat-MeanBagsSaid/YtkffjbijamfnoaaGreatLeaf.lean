/-
  Small functions: lists held against one another, an operator's arity, numbers in a range.
-/
import Derived.Test.YtkffjbijamfnoaaGreatHlTypes
import Derived.Test.YtkffjbijamfnoaaGreatSpec
set_option linter.unusedVariables false
set_option linter.unusedSimpArgs false
namespace Go.Proofs.YtkffjbijamfnoaaGreat
open Go.RowKit

theorem eq70 : EqF Tryz.prog 70 eRec := by
  refine ⟨fun x y w => ?_, by kernel_rfl⟩
  have u2 := Tryz.underlying2
  have a2 := Tryz.isAgg2
  have hS70 : Tryz.prog.underlying 70 = some (.struct (Tryz.prog.fieldsOf 70)) := by kernel_rfl
  have hp70 : Tryz.prog.stoodInHeld 70 = false := by kernel_rfl
  obtain ⟨x0, x1, x2⟩ := x
  obtain ⟨y0, y1, y2⟩ := y
  simp only [eRec]
  rw [show (10000 : Nat) = 9999 + 1 from rfl, run_equalIn_agg w 9999 70 _ _ hS70 hp70]
  simp only [Program.fieldsOf, Tryz.underlying70]
  go_simp
  by_cases h0 : x0 = y0 <;> by_cases h1 : x1 = y1 <;> by_cases h2 : x2 = y2 <;> simp [h0, h1, h2]

theorem eq164 : EqF Tryz.prog 164 eSpan := by
  refine ⟨fun x y w => ?_, by kernel_rfl⟩
  have u2 := Tryz.underlying2
  have a2 := Tryz.isAgg2
  have hS164 : Tryz.prog.underlying 164 = some (.struct (Tryz.prog.fieldsOf 164)) := by kernel_rfl
  have hp164 : Tryz.prog.stoodInHeld 164 = false := by kernel_rfl
  obtain ⟨x0, x1⟩ := x
  obtain ⟨y0, y1⟩ := y
  simp only [eSpan]
  rw [show (10000 : Nat) = 9999 + 1 from rfl, run_equalIn_agg w 9999 164 _ _ hS164 hp164]
  simp only [Program.fieldsOf, Tryz.underlying164]
  go_simp
  by_cases h0 : x0 = y0 <;> by_cases h1 : x1 = y1 <;> simp [h0, h1]

theorem eq115 : EqF Tryz.prog 115 eTask := by
  refine ⟨fun x y w => ?_, by kernel_rfl⟩
  have u3 := Tryz.underlying3
  have a3 := Tryz.isAgg3
  have hS115 : Tryz.prog.underlying 115 = some (.struct (Tryz.prog.fieldsOf 115)) := by kernel_rfl
  have hp115 : Tryz.prog.stoodInHeld 115 = false := by kernel_rfl
  obtain ⟨x0, x1⟩ := x
  obtain ⟨y0, y1⟩ := y
  simp only [eTask]
  rw [show (10000 : Nat) = 9999 + 1 from rfl, run_equalIn_agg w 9999 115 _ _ hS115 hp115]
  simp only [Program.fieldsOf, Tryz.underlying115]
  go_simp
  by_cases h0 : x0 = y0 <;> by_cases h1 : x1 = y1 <;> simp [h0, h1]

theorem eq118 : EqF Tryz.prog 118 eChan := by
  refine ⟨fun x y w => ?_, by kernel_rfl⟩
  have u3 := Tryz.underlying3
  have a3 := Tryz.isAgg3
  have hS118 : Tryz.prog.underlying 118 = some (.struct (Tryz.prog.fieldsOf 118)) := by kernel_rfl
  have hp118 : Tryz.prog.stoodInHeld 118 = false := by kernel_rfl
  obtain ⟨x0, x1, x2⟩ := x
  obtain ⟨y0, y1, y2⟩ := y
  simp only [eChan]
  rw [show (10000 : Nat) = 9999 + 1 from rfl, run_equalIn_agg w 9999 118 _ _ hS118 hp118]
  simp only [Program.fieldsOf, Tryz.underlying118]
  go_simp
  by_cases h0 : x0 = y0 <;> by_cases h1 : x1 = y1 <;> by_cases h2 : x2 = y2 <;> simp [h0, h1, h2]

theorem eq29 : EqF Tryz.prog 29 eWin := by
  refine ⟨fun x y w => ?_, by kernel_rfl⟩
  have u2 := Tryz.underlying2
  have a2 := Tryz.isAgg2
  have u3 := Tryz.underlying3
  have a3 := Tryz.isAgg3
  have hS29 : Tryz.prog.underlying 29 = some (.struct (Tryz.prog.fieldsOf 29)) := by kernel_rfl
  have hp29 : Tryz.prog.stoodInHeld 29 = false := by kernel_rfl
  obtain ⟨x0, x1, x2⟩ := x
  obtain ⟨y0, y1, y2⟩ := y
  simp only [eWin]
  rw [show (10000 : Nat) = 9999 + 1 from rfl, run_equalIn_agg w 9999 29 _ _ hS29 hp29]
  simp only [Program.fieldsOf, Tryz.underlying29]
  go_simp
  by_cases h0 : x0 = y0 <;> by_cases h1 : x1 = y1 <;> by_cases h2 : x2 = y2 <;> simp [h0, h1, h2]

theorem eqd164 (d : Nat) (x y : Span) (w : World) : (Op.equalIn (d + 2) 164 (.agg (eSpan x).toArray) (.agg (eSpan y).toArray)).run Tryz.prog w = .ok (decide (x = y)) w := by
  have u2 := Tryz.underlying2
  have a2 := Tryz.isAgg2
  have hS164 : Tryz.prog.underlying 164 = some (.struct (Tryz.prog.fieldsOf 164)) := by kernel_rfl
  have hp164 : Tryz.prog.stoodInHeld 164 = false := by kernel_rfl
  obtain ⟨x0, x1⟩ := x
  obtain ⟨y0, y1⟩ := y
  simp only [eSpan]
  rw [run_equalIn_agg w (d + 1) 164 _ _ hS164 hp164]
  simp only [Program.fieldsOf, Tryz.underlying164]
  go_simp
  by_cases h0 : x0 = y0 <;> by_cases h1 : x1 = y1 <;> simp [h0, h1]
theorem eq166 : EqF Tryz.prog 166 ePane := by
  refine ⟨fun x y w => ?_, by kernel_rfl⟩
  have u2 := Tryz.underlying2
  have a2 := Tryz.isAgg2
  have a164 := Tryz.isAgg164
  have z164 := Tryz.sizeOf164
  have hS166 : Tryz.prog.underlying 166 = some (.struct (Tryz.prog.fieldsOf 166)) := by kernel_rfl
  have hp166 : Tryz.prog.stoodInHeld 166 = false := by kernel_rfl
  have q : ∀ (a b c d : Int) (w : World), (Op.equalIn 9999 164 (.agg #[.int .i64 a, .int .i64 b]) (.agg #[.int .i64 c, .int .i64 d])).run Tryz.prog w = .ok (decide ((⟨a, b⟩ : Span) = ⟨c, d⟩)) w := fun a b c d w => eqd164 9997 ⟨a, b⟩ ⟨c, d⟩ w
  obtain ⟨x0, ⟨x1, x2⟩, x3⟩ := x
  obtain ⟨y0, ⟨y1, y2⟩, y3⟩ := y
  simp only [ePane]
  rw [show (10000 : Nat) = 9999 + 1 from rfl, run_equalIn_agg w 9999 166 _ _ hS166 hp166]
  simp only [Program.fieldsOf, Tryz.underlying166]
  clear hS166 hp166
  go_simp
  by_cases h0 : x0 = y0 <;> by_cases h1 : x1 = y1 <;> by_cases h2 : x2 = y2 <;> by_cases h3 : x3 = y3 <;> simp [h0, h1, h2, h3]

theorem records_calls (m : Nat → Prop) (A B : Option Addr) (c d : Nat) (a b : List Rec) (w : World) (hr : Ro m w (fun w => kRec.Row w A a ∧ kRec.Row w B b)) (hl : a.length ≤ 9223372036854775807) :
    Calls Tryz.prog 32 #[.slice A a.length c, .slice B b.length d] w (PostV m w (.bool (decide (a = b)))) := by
  refine calls_of_Wc (args := [.slice A a.length c, .slice B b.length d]) 26 Tryz.func32 rfl rfl (by simp) ?_
  refine Wc.start hr ?_
  refine Wc.seq ?_
  refine Wc.region ?_
  refine Wl.assign rfl rfl ?_
  refine Wl.nil ?_
  refine Wx.then_n ?_
  refine Wc.seq ?_
  refine Wc.seq ?_
  refine Wc.region ?_
  refine Wl.move rfl rfl ?_
  refine Wl.len Tryz.underlying59 rfl rfl ?_
  refine Wl.move rfl rfl ?_
  refine Wl.len Tryz.underlying59 rfl rfl ?_
  refine Wl.neq rfl rfl rfl ?_
  refine Wl.nil ?_
  refine Wx.then_n ?_
  refine Wc.condp rfl (fun h10 => ?_) (fun h10 => ?_)
  ·
    refine Wc.seq ?_
    refine Wc.region ?_
    refine Wl.assign rfl rfl ?_
    refine Wl.nil ?_
    refine Wx.then_n ?_
    refine Wc.ret ?_
    refine Wx.then_r ?_
    rw [show decide (a = b) = false from decide_eq_false (fun e => h10 (by rw [e]))]
    exact Wx.retV rfl rfl
  ·
    have hab : a.length = b.length := by omega
    refine Wc.skip ?_
    refine Wx.then_n ?_
    refine Wc.seq ?_
    refine Wc.seq ?_
    refine Wc.region ?_
    refine Wl.assign rfl rfl ?_
    refine Wl.nil ?_
    refine Wx.then_n ?_
    refine Wc.block ?_
    refine Wc.loopS (G := Nat) (fun g => match g with | k => [(0, .slice A a.length c), (1, .slice B b.length d), (5, .int .i64 k)]) (fun g => match g with | k => k ≤ a.length ∧ a.take k = b.take k) (fun g => match g with | k => []) (fun g => match g with | k => fun w => kRec.Row w A a ∧ kRec.Row w B b) (fun g => match g with | k => a.length - k) 0 ⟨rfl, rfl, rfl, trivial⟩ ⟨Nat.zero_le _, rfl⟩ (fun w hw => hw) ?_
    rintro k ⟨hk0, he⟩
    dsimp only
    refine Wc.seq ?_
    refine Wc.seq ?_
    refine Wc.region ?_
    refine Wl.move rfl rfl ?_
    refine Wl.move rfl rfl ?_
    refine Wl.len Tryz.underlying59 rfl rfl ?_
    refine Wl.lss rfl rfl rfl ?_
    refine Wl.nil ?_
    refine Wx.then_n ?_
    refine Wc.condp rfl (fun h14 => ?_) (fun h14 => ?_)
    ·
      have hk : k < a.length := by omega
      have hk2 : k < b.length := by omega
      refine Wc.pure (p := (∃ ad, A = some ad) ∧ ∃ ad, B = some ad) (fun w hw => ⟨hw.addr (fun w h => h.1) (by omega), hw.addr (fun w h => h.2) (by omega)⟩) ?_
      rintro ⟨⟨ad, rfl⟩, bd, rfl⟩
      refine Wc.skip ?_
      refine Wx.then_n ?_
      refine Wc.seq ?_
      refine Wc.block ?_
      refine Wc.seq ?_
      refine Wc.draw mixed (by kernel_rfl) (fun w hw => hw.drew) ?_
      refine Wl.move rfl rfl ?_
      refine Wl.move rfl rfl ?_
      refine Wl.idx Tryz.underlying59 t70 rfl rfl rfl hk ?_
      refine Wl.loadrw (cs := eRec a[k]) t70 (fun w h => h.1.cells k hk) rfl rfl rfl ?_
      refine Wl.move rfl rfl ?_
      refine Wl.move rfl rfl ?_
      refine Wl.idx Tryz.underlying59 t70 rfl rfl rfl hk2 ?_
      refine Wl.loadrw (cs := eRec b[k]) t70 (fun w h => h.2.cells k hk2) rfl rfl rfl ?_
      refine Wl.neqs a[k] b[k] eq70 rfl rfl rfl ?_
      refine Wl.nilq ?_
      refine Wx.then_n ?_
      refine Wc.condp rfl (fun h25 => ?_) (fun h25 => ?_)
      ·
        refine Wc.seq ?_
        refine Wc.region ?_
        refine Wl.assign rfl rfl ?_
        refine Wl.nil ?_
        refine Wx.then_n ?_
        refine Wc.ret ?_
        refine Wx.block_r ?_
        refine Wx.then_r ?_
        refine Wx.then_r ?_
        refine Wx.block_r ?_
        refine Wx.then_r ?_
        rw [show decide (a = b) = false from decide_eq_false (fun e => h25 (by subst e; rfl))]
        exact Wx.retV rfl rfl
      ·
        refine Wc.skip ?_
        refine Wx.block_n ?_
        refine Wx.then_n ?_
        refine Wc.region ?_
        refine Wl.move rfl rfl ?_
        refine Wl.add rfl rfl rfl (by omega) ?_
        refine Wl.assign rfl rfl ?_
        refine Wl.nil ?_
        exact Wx.againS (k + 1) (by omega) ⟨rfl, rfl, rfl, trivial⟩ ⟨hk, by rw [List.take_succ_eq_append_getElem hk, List.take_succ_eq_append_getElem hk2, he, Decidable.not_not.1 h25]⟩ (fun w hw => hw)
    ·
      refine Wc.exit ?_
      refine Wx.then_e ?_
      refine Wx.then_e ?_
      refine Wx.block_e ?_
      refine Wx.then_n ?_
      refine Wc.seq ?_
      refine Wc.region ?_
      refine Wl.assign rfl rfl ?_
      refine Wl.nil ?_
      refine Wx.then_n ?_
      refine Wc.ret ?_
      obtain rfl : k = a.length := by omega
      rw [show decide (a = b) = true from decide_eq_true (by rw [List.take_length] at he; rw [he, hab, List.take_length])]
      exact Wx.retV rfl rfl

theorem panes_calls (m : Nat → Prop) (A B : Option Addr) (c d : Nat) (a b : List Pane) (w : World) (hr : Ro m w (fun w => kPane.Row w A a ∧ kPane.Row w B b)) (hl : a.length ≤ 9223372036854775807) :
    Calls Tryz.prog 43 #[.slice A a.length c, .slice B b.length d] w (PostV m w (.bool (decide (a = b)))) := by
  refine calls_of_Wc (args := [.slice A a.length c, .slice B b.length d]) 26 Tryz.func43 rfl rfl (by simp) ?_
  refine Wc.start hr ?_
  refine Wc.seq ?_
  refine Wc.region ?_
  refine Wl.assign rfl rfl ?_
  refine Wl.nil ?_
  refine Wx.then_n ?_
  refine Wc.seq ?_
  refine Wc.seq ?_
  refine Wc.region ?_
  refine Wl.move rfl rfl ?_
  refine Wl.len Tryz.underlying53 rfl rfl ?_
  refine Wl.move rfl rfl ?_
  refine Wl.len Tryz.underlying53 rfl rfl ?_
  refine Wl.neq rfl rfl rfl ?_
  refine Wl.nil ?_
  refine Wx.then_n ?_
  refine Wc.condp rfl (fun h10 => ?_) (fun h10 => ?_)
  ·
    refine Wc.seq ?_
    refine Wc.region ?_
    refine Wl.assign rfl rfl ?_
    refine Wl.nil ?_
    refine Wx.then_n ?_
    refine Wc.ret ?_
    refine Wx.then_r ?_
    rw [show decide (a = b) = false from decide_eq_false (fun e => h10 (by rw [e]))]
    exact Wx.retV rfl rfl
  ·
    have hab : a.length = b.length := by omega
    refine Wc.skip ?_
    refine Wx.then_n ?_
    refine Wc.seq ?_
    refine Wc.seq ?_
    refine Wc.region ?_
    refine Wl.assign rfl rfl ?_
    refine Wl.nil ?_
    refine Wx.then_n ?_
    refine Wc.block ?_
    refine Wc.loopS (G := Nat) (fun g => match g with | k => [(0, .slice A a.length c), (1, .slice B b.length d), (5, .int .i64 k)]) (fun g => match g with | k => k ≤ a.length ∧ a.take k = b.take k) (fun g => match g with | k => []) (fun g => match g with | k => fun w => kPane.Row w A a ∧ kPane.Row w B b) (fun g => match g with | k => a.length - k) 0 ⟨rfl, rfl, rfl, trivial⟩ ⟨Nat.zero_le _, rfl⟩ (fun w hw => hw) ?_
    rintro k ⟨hk0, he⟩
    dsimp only
    refine Wc.seq ?_
    refine Wc.seq ?_
    refine Wc.region ?_
    refine Wl.move rfl rfl ?_
    refine Wl.move rfl rfl ?_
    refine Wl.len Tryz.underlying53 rfl rfl ?_
    refine Wl.lss rfl rfl rfl ?_
    refine Wl.nil ?_
    refine Wx.then_n ?_
    refine Wc.condp rfl (fun h14 => ?_) (fun h14 => ?_)
    ·
      have hk : k < a.length := by omega
      have hk2 : k < b.length := by omega
      refine Wc.pure (p := (∃ ad, A = some ad) ∧ ∃ ad, B = some ad) (fun w hw => ⟨hw.addr (fun w h => h.1) (by omega), hw.addr (fun w h => h.2) (by omega)⟩) ?_
      rintro ⟨⟨ad, rfl⟩, bd, rfl⟩
      refine Wc.skip ?_
      refine Wx.then_n ?_
      refine Wc.seq ?_
      refine Wc.block ?_
      refine Wc.seq ?_
      refine Wc.draw mixed (by kernel_rfl) (fun w hw => hw.drew) ?_
      refine Wl.move rfl rfl ?_
      refine Wl.move rfl rfl ?_
      refine Wl.idx Tryz.underlying53 t166 rfl rfl rfl hk ?_
      refine Wl.loadrw (cs := ePane a[k]) t166 (fun w h => h.1.cells k hk) rfl rfl rfl ?_
      refine Wl.move rfl rfl ?_
      refine Wl.move rfl rfl ?_
      refine Wl.idx Tryz.underlying53 t166 rfl rfl rfl hk2 ?_
      refine Wl.loadrw (cs := ePane b[k]) t166 (fun w h => h.2.cells k hk2) rfl rfl rfl ?_
      refine Wl.neqs a[k] b[k] eq166 rfl rfl rfl ?_
      refine Wl.nilq ?_
      refine Wx.then_n ?_
      refine Wc.condp rfl (fun h25 => ?_) (fun h25 => ?_)
      ·
        refine Wc.seq ?_
        refine Wc.region ?_
        refine Wl.assign rfl rfl ?_
        refine Wl.nil ?_
        refine Wx.then_n ?_
        refine Wc.ret ?_
        refine Wx.block_r ?_
        refine Wx.then_r ?_
        refine Wx.then_r ?_
        refine Wx.block_r ?_
        refine Wx.then_r ?_
        rw [show decide (a = b) = false from decide_eq_false (fun e => h25 (by subst e; rfl))]
        exact Wx.retV rfl rfl
      ·
        refine Wc.skip ?_
        refine Wx.block_n ?_
        refine Wx.then_n ?_
        refine Wc.region ?_
        refine Wl.move rfl rfl ?_
        refine Wl.add rfl rfl rfl (by omega) ?_
        refine Wl.assign rfl rfl ?_
        refine Wl.nil ?_
        exact Wx.againS (k + 1) (by omega) ⟨rfl, rfl, rfl, trivial⟩ ⟨hk, by rw [List.take_succ_eq_append_getElem hk, List.take_succ_eq_append_getElem hk2, he, Decidable.not_not.1 h25]⟩ (fun w hw => hw)
    ·
      refine Wc.exit ?_
      refine Wx.then_e ?_
      refine Wx.then_e ?_
      refine Wx.block_e ?_
      refine Wx.then_n ?_
      refine Wc.seq ?_
      refine Wc.region ?_
      refine Wl.assign rfl rfl ?_
      refine Wl.nil ?_
      refine Wx.then_n ?_
      refine Wc.ret ?_
      obtain rfl : k = a.length := by omega
      rw [show decide (a = b) = true from decide_eq_true (by rw [List.take_length] at he; rw [he, hab, List.take_length])]
      exact Wx.retV rfl rfl

theorem marks_calls (m : Nat → Prop) (A B : Option Addr) (c d : Nat) (a b : List Int) (w : World) (hr : Ro m w (fun w => kInt.Row w A a ∧ kInt.Row w B b)) (hl : a.length ≤ 9223372036854775807) :
    Calls Tryz.prog 42 #[.slice A a.length c, .slice B b.length d] w (PostV m w (.bool (decide (a = b)))) := by
  refine calls_of_Wc (args := [.slice A a.length c, .slice B b.length d]) 26 Tryz.func42 rfl rfl (by simp) ?_
  refine Wc.start hr ?_
  refine Wc.seq ?_
  refine Wc.region ?_
  refine Wl.assign rfl rfl ?_
  refine Wl.nil ?_
  refine Wx.then_n ?_
  refine Wc.seq ?_
  refine Wc.seq ?_
  refine Wc.region ?_
  refine Wl.move rfl rfl ?_
  refine Wl.len Tryz.underlying52 rfl rfl ?_
  refine Wl.move rfl rfl ?_
  refine Wl.len Tryz.underlying52 rfl rfl ?_
  refine Wl.neq rfl rfl rfl ?_
  refine Wl.nil ?_
  refine Wx.then_n ?_
  refine Wc.condp rfl (fun h10 => ?_) (fun h10 => ?_)
  ·
    refine Wc.seq ?_
    refine Wc.region ?_
    refine Wl.assign rfl rfl ?_
    refine Wl.nil ?_
    refine Wx.then_n ?_
    refine Wc.ret ?_
    refine Wx.then_r ?_
    rw [show decide (a = b) = false from decide_eq_false (fun e => h10 (by rw [e]))]
    exact Wx.retV rfl rfl
  ·
    have hab : a.length = b.length := by omega
    refine Wc.skip ?_
    refine Wx.then_n ?_
    refine Wc.seq ?_
    refine Wc.seq ?_
    refine Wc.region ?_
    refine Wl.assign rfl rfl ?_
    refine Wl.nil ?_
    refine Wx.then_n ?_
    refine Wc.block ?_
    refine Wc.loopS (G := Nat) (fun g => match g with | k => [(0, .slice A a.length c), (1, .slice B b.length d), (5, .int .i64 k)]) (fun g => match g with | k => k ≤ a.length ∧ a.take k = b.take k) (fun g => match g with | k => []) (fun g => match g with | k => fun w => kInt.Row w A a ∧ kInt.Row w B b) (fun g => match g with | k => a.length - k) 0 ⟨rfl, rfl, rfl, trivial⟩ ⟨Nat.zero_le _, rfl⟩ (fun w hw => hw) ?_
    rintro k ⟨hk0, he⟩
    dsimp only
    refine Wc.seq ?_
    refine Wc.seq ?_
    refine Wc.region ?_
    refine Wl.move rfl rfl ?_
    refine Wl.move rfl rfl ?_
    refine Wl.len Tryz.underlying52 rfl rfl ?_
    refine Wl.lss rfl rfl rfl ?_
    refine Wl.nil ?_
    refine Wx.then_n ?_
    refine Wc.condp rfl (fun h14 => ?_) (fun h14 => ?_)
    ·
      have hk : k < a.length := by omega
      have hk2 : k < b.length := by omega
      refine Wc.pure (p := (∃ ad, A = some ad) ∧ ∃ ad, B = some ad) (fun w hw => ⟨hw.addr (fun w h => h.1) (by omega), hw.addr (fun w h => h.2) (by omega)⟩) ?_
      rintro ⟨⟨ad, rfl⟩, bd, rfl⟩
      refine Wc.skip ?_
      refine Wx.then_n ?_
      refine Wc.seq ?_
      refine Wc.block ?_
      refine Wc.seq ?_
      refine Wc.draw mixed (by kernel_rfl) (fun w hw => hw.drew) ?_
      refine Wl.move rfl rfl ?_
      refine Wl.move rfl rfl ?_
      refine Wl.idx Tryz.underlying52 t2 rfl rfl rfl hk ?_
      refine Wl.loadr (j := 0) (cs := eInt a[k]) t2 (fun w h => h.1.cells k hk) rfl rfl (Addr.add_zero' _).symm rfl ?_
      refine Wl.move rfl rfl ?_
      refine Wl.move rfl rfl ?_
      refine Wl.idx Tryz.underlying52 t2 rfl rfl rfl hk2 ?_
      refine Wl.loadr (j := 0) (cs := eInt b[k]) t2 (fun w h => h.2.cells k hk2) rfl rfl (Addr.add_zero' _).symm rfl ?_
      refine Wl.neq rfl rfl rfl ?_
      refine Wl.nilq ?_
      refine Wx.then_n ?_
      refine Wc.condp rfl (fun h25 => ?_) (fun h25 => ?_)
      ·
        refine Wc.seq ?_
        refine Wc.region ?_
        refine Wl.assign rfl rfl ?_
        refine Wl.nil ?_
        refine Wx.then_n ?_
        refine Wc.ret ?_
        refine Wx.block_r ?_
        refine Wx.then_r ?_
        refine Wx.then_r ?_
        refine Wx.block_r ?_
        refine Wx.then_r ?_
        rw [show decide (a = b) = false from decide_eq_false (fun e => h25 (by subst e; rfl))]
        exact Wx.retV rfl rfl
      ·
        refine Wc.skip ?_
        refine Wx.block_n ?_
        refine Wx.then_n ?_
        refine Wc.region ?_
        refine Wl.move rfl rfl ?_
        refine Wl.add rfl rfl rfl (by omega) ?_
        refine Wl.assign rfl rfl ?_
        refine Wl.nil ?_
        exact Wx.againS (k + 1) (by omega) ⟨rfl, rfl, rfl, trivial⟩ ⟨hk, by rw [List.take_succ_eq_append_getElem hk, List.take_succ_eq_append_getElem hk2, he, Decidable.not_not.1 h25]⟩ (fun w hw => hw)
    ·
      refine Wc.exit ?_
      refine Wx.then_e ?_
      refine Wx.then_e ?_
      refine Wx.block_e ?_
      refine Wx.then_n ?_
      refine Wc.seq ?_
      refine Wc.region ?_
      refine Wl.assign rfl rfl ?_
      refine Wl.nil ?_
      refine Wx.then_n ?_
      refine Wc.ret ?_
      obtain rfl : k = a.length := by omega
      rw [show decide (a = b) = true from decide_eq_true (by rw [List.take_length] at he; rw [he, hab, List.take_length])]
      exact Wx.retV rfl rfl

theorem tmod_place (k n : Int) (hn : 0 < n) : (k.tmod n < 0 → k.tmod n + n = place k n) ∧ (¬ k.tmod n < 0 → k.tmod n = place k n) ∧ -n < k.tmod n ∧ k.tmod n < n := by
  unfold place
  rw [Int.tmod_eq_emod]
  have h1 := Int.emod_nonneg k (show n ≠ 0 by omega)
  have h2 := Int.emod_lt_of_pos k hn
  split
  · omega
  · rename_i h
    have : k % n ≠ 0 := fun e => h (.inr (Int.dvd_of_emod_eq_zero e))
    omega

theorem place_calls (m : Nat → Prop) (k n : Int) (w : World) (hr : Ro m w (fun _ => True)) (hn : 0 < n) (hn2 : n ≤ 9223372036854775807) :
    Calls Tryz.prog 18 #[.int .i64 k, .int .i64 n] w (PostV m w (.int .i64 (place k n))) := by
  obtain ⟨p1, p2, p3, p4⟩ := tmod_place k n hn
  refine calls_of_Wc (args := [.int .i64 k, .int .i64 n]) 14 Tryz.func18 rfl rfl (by simp) ?_
  refine Wc.start hr ?_
  refine Wc.seq ?_
  refine Wc.region ?_
  refine Wl.assign rfl rfl ?_
  refine Wl.nil ?_
  refine Wx.then_n ?_
  refine Wc.seq ?_
  refine Wc.region ?_
  refine Wl.move rfl rfl ?_
  refine Wl.move rfl rfl ?_
  refine Wl.rem rfl rfl rfl (by omega) ?_
  refine Wl.assign rfl rfl ?_
  refine Wl.nil ?_
  refine Wx.then_n ?_
  refine Wc.seq ?_
  refine Wc.seq ?_
  refine Wc.region ?_
  refine Wl.move rfl rfl ?_
  refine Wl.lss rfl rfl rfl ?_
  refine Wl.nil ?_
  refine Wx.then_n ?_
  refine Wc.condp rfl (fun h9 => ?_) (fun h9 => ?_)
  ·
    refine Wc.region ?_
    refine Wl.move rfl rfl ?_
    refine Wl.move rfl rfl ?_
    refine Wl.add rfl rfl rfl (by omega) ?_
    refine Wl.assign rfl rfl ?_
    refine Wl.nil ?_
    refine Wx.then_n ?_
    refine Wc.seq ?_
    refine Wc.region ?_
    refine Wl.move rfl rfl ?_
    refine Wl.assign rfl rfl ?_
    refine Wl.nil ?_
    refine Wx.then_n ?_
    refine Wc.ret ?_
    exact Wx.retI rfl rfl (p1 h9)
  ·
    refine Wc.skip ?_
    refine Wx.then_n ?_
    refine Wc.seq ?_
    refine Wc.region ?_
    refine Wl.move rfl rfl ?_
    refine Wl.assign rfl rfl ?_
    refine Wl.nil ?_
    refine Wx.then_n ?_
    refine Wc.ret ?_
    exact Wx.retI rfl rfl (p2 h9)

theorem arity7_calls (m : Nat → Prop) (op : Int) (w : World) (hr : Ro m w (fun _ => True)) :
    Calls Tryz.prog 232 #[.int .i64 op] w (PostV m w (.int .i64 (arity op))) := by
  refine calls_of_Wc (args := [.int .i64 op]) 20 Tryz.func232 rfl rfl (by simp) ?_
  refine Wc.start hr ?_
  refine Wc.seq ?_
  refine Wc.region ?_
  refine Wl.assign rfl rfl ?_
  refine Wl.nil ?_
  refine Wx.then_n ?_
  refine Wc.seq ?_
  refine Wc.block ?_
  refine Wc.seq ?_
  refine Wc.region ?_
  refine Wl.move rfl rfl ?_
  refine Wl.geq rfl rfl rfl ?_
  refine Wl.move rfl rfl ?_
  refine Wl.splitp 6 rfl (fun h6 => ?_) (fun h6 => ?_)
  ·
    refine Wl.move rfl rfl ?_
    refine Wl.leq rfl rfl rfl ?_
    refine Wl.pick_t rfl rfl rfl ?_
    refine Wl.assign rfl rfl ?_
    refine Wl.nil ?_
    refine Wx.then_n ?_
    refine Wc.condp rfl (fun h3 => ?_) (fun h3 => ?_)
    ·
      refine Wc.seq ?_
      refine Wc.region ?_
      refine Wl.assign rfl rfl ?_
      refine Wl.nil ?_
      refine Wx.then_n ?_
      refine Wc.ret ?_
      refine Wx.block_r ?_
      refine Wx.then_r ?_
      exact Wx.retI rfl rfl (by unfold arity; (repeat' split) <;> omega)
    ·
      refine Wc.seq ?_
      refine Wc.region ?_
      refine Wl.move rfl rfl ?_
      refine Wl.eql rfl rfl rfl ?_
      refine Wl.assign rfl rfl ?_
      refine Wl.nil ?_
      refine Wx.then_n ?_
      refine Wc.condp rfl (fun h10 => ?_) (fun h10 => ?_)
      ·
        refine Wc.seq ?_
        refine Wc.region ?_
        refine Wl.assign rfl rfl ?_
        refine Wl.nil ?_
        refine Wx.then_n ?_
        refine Wc.ret ?_
        refine Wx.block_r ?_
        refine Wx.then_r ?_
        exact Wx.retI rfl rfl (by unfold arity; (repeat' split) <;> omega)
      ·
        refine Wc.seq ?_
        refine Wc.region ?_
        refine Wl.move rfl rfl ?_
        refine Wl.geq rfl rfl rfl ?_
        refine Wl.move rfl rfl ?_
        refine Wl.splitp 16 rfl (fun h16 => ?_) (fun h16 => ?_)
        ·
          refine Wl.move rfl rfl ?_
          refine Wl.leq rfl rfl rfl ?_
          refine Wl.pick_t rfl rfl rfl ?_
          refine Wl.assign rfl rfl ?_
          refine Wl.nil ?_
          refine Wx.then_n ?_
          refine Wc.condp rfl (fun h13 => ?_) (fun h13 => ?_)
          ·
            refine Wc.seq ?_
            refine Wc.region ?_
            refine Wl.assign rfl rfl ?_
            refine Wl.nil ?_
            refine Wx.then_n ?_
            refine Wc.ret ?_
            refine Wx.block_r ?_
            refine Wx.then_r ?_
            exact Wx.retI rfl rfl (by unfold arity; (repeat' split) <;> omega)
          ·
            refine Wc.skip ?_
            refine Wx.block_n ?_
            refine Wx.then_n ?_
            refine Wc.seq ?_
            refine Wc.region ?_
            refine Wl.assign rfl rfl ?_
            refine Wl.nil ?_
            refine Wx.then_n ?_
            refine Wc.ret ?_
            exact Wx.retI rfl rfl (by unfold arity; (repeat' split) <;> omega)
        ·
          refine Wl.skip rfl rfl ?_
          refine Wl.skip rfl rfl ?_
          refine Wl.pick_f rfl rfl rfl ?_
          refine Wl.assign rfl rfl ?_
          refine Wl.nil ?_
          refine Wx.then_n ?_
          refine Wc.cond_f rfl ?_
          refine Wc.skip ?_
          refine Wx.block_n ?_
          refine Wx.then_n ?_
          refine Wc.seq ?_
          refine Wc.region ?_
          refine Wl.assign rfl rfl ?_
          refine Wl.nil ?_
          refine Wx.then_n ?_
          refine Wc.ret ?_
          exact Wx.retI rfl rfl (by unfold arity; (repeat' split) <;> omega)
  ·
    refine Wl.skip rfl rfl ?_
    refine Wl.skip rfl rfl ?_
    refine Wl.pick_f rfl rfl rfl ?_
    refine Wl.assign rfl rfl ?_
    refine Wl.nil ?_
    refine Wx.then_n ?_
    refine Wc.cond_f rfl ?_
    refine Wc.seq ?_
    refine Wc.region ?_
    refine Wl.move rfl rfl ?_
    refine Wl.eql rfl rfl rfl ?_
    refine Wl.assign rfl rfl ?_
    refine Wl.nil ?_
    refine Wx.then_n ?_
    refine Wc.condp rfl (fun h10 => ?_) (fun h10 => ?_)
    ·
      refine Wc.seq ?_
      refine Wc.region ?_
      refine Wl.assign rfl rfl ?_
      refine Wl.nil ?_
      refine Wx.then_n ?_
      refine Wc.ret ?_
      refine Wx.block_r ?_
      refine Wx.then_r ?_
      exact Wx.retI rfl rfl (by unfold arity; (repeat' split) <;> omega)
    ·
      refine Wc.seq ?_
      refine Wc.region ?_
      refine Wl.move rfl rfl ?_
      refine Wl.geq rfl rfl rfl ?_
      refine Wl.move rfl rfl ?_
      refine Wl.splitp 16 rfl (fun h16 => ?_) (fun h16 => ?_)
      ·
        refine Wl.move rfl rfl ?_
        refine Wl.leq rfl rfl rfl ?_
        refine Wl.pick_t rfl rfl rfl ?_
        refine Wl.assign rfl rfl ?_
        refine Wl.nil ?_
        refine Wx.then_n ?_
        refine Wc.condp rfl (fun h13 => ?_) (fun h13 => ?_)
        ·
          refine Wc.seq ?_
          refine Wc.region ?_
          refine Wl.assign rfl rfl ?_
          refine Wl.nil ?_
          refine Wx.then_n ?_
          refine Wc.ret ?_
          refine Wx.block_r ?_
          refine Wx.then_r ?_
          exact Wx.retI rfl rfl (by unfold arity; (repeat' split) <;> omega)
        ·
          refine Wc.skip ?_
          refine Wx.block_n ?_
          refine Wx.then_n ?_
          refine Wc.seq ?_
          refine Wc.region ?_
          refine Wl.assign rfl rfl ?_
          refine Wl.nil ?_
          refine Wx.then_n ?_
          refine Wc.ret ?_
          exact Wx.retI rfl rfl (by unfold arity; (repeat' split) <;> omega)
      ·
        refine Wl.skip rfl rfl ?_
        refine Wl.skip rfl rfl ?_
        refine Wl.pick_f rfl rfl rfl ?_
        refine Wl.assign rfl rfl ?_
        refine Wl.nil ?_
        refine Wx.then_n ?_
        refine Wc.cond_f rfl ?_
        refine Wc.skip ?_
        refine Wx.block_n ?_
        refine Wx.then_n ?_
        refine Wc.seq ?_
        refine Wc.region ?_
        refine Wl.assign rfl rfl ?_
        refine Wl.nil ?_
        refine Wx.then_n ?_
        refine Wc.ret ?_
        exact Wx.retI rfl rfl (by unfold arity; (repeat' split) <;> omega)

theorem arity_calls (m : Nat → Prop) (op : Int) (w : World) (hr : Ro m w (fun _ => True)) :
    Calls Tryz.prog 233 #[.int .i64 op] w (PostV m w (.int .i64 (arity op))) := by
  refine calls_of_Wc (args := [.int .i64 op]) 18 Tryz.func233 rfl rfl (by simp) ?_
  refine Wc.start hr ?_
  refine Wc.seq ?_
  refine Wc.region ?_
  refine Wl.assign rfl rfl ?_
  refine Wl.nil ?_
  refine Wx.then_n ?_
  refine Wc.seq ?_
  refine Wc.seq ?_
  refine Wc.region ?_
  refine Wl.move rfl rfl ?_
  refine Wl.nil ?_
  refine Wx.then_n ?_
  refine Wc.block ?_
  refine Wc.seq ?_
  refine Wc.block ?_
  refine Wc.seq ?_
  refine Wc.block ?_
  refine Wc.block ?_
  refine Wc.seq ?_
  refine Wc.seq ?_
  refine Wc.seq ?_
  refine Wc.region ?_
  refine Wl.eql rfl rfl rfl ?_
  refine Wl.assign rfl rfl ?_
  refine Wl.nil ?_
  refine Wx.then_n ?_
  refine Wc.condp rfl (fun h4 => ?_) (fun h4 => ?_)
  ·
    refine Wc.exit ?_
    refine Wx.then_e ?_
    refine Wx.then_e ?_
    refine Wx.block_e ?_
    refine Wx.block_n ?_
    refine Wx.then_n ?_
    refine Wc.seq ?_
    refine Wc.seq ?_
    refine Wc.region ?_
    refine Wl.assign rfl rfl ?_
    refine Wl.nil ?_
    refine Wx.then_n ?_
    refine Wc.ret ?_
    refine Wx.then_r ?_
    refine Wx.block_r ?_
    refine Wx.then_r ?_
    refine Wx.block_r ?_
    refine Wx.then_r ?_
    exact Wx.retI rfl rfl (by unfold arity; (repeat' split) <;> omega)
  ·
    refine Wc.skip ?_
    refine Wx.then_n ?_
    refine Wc.seq ?_
    refine Wc.seq ?_
    refine Wc.seq ?_
    refine Wc.region ?_
    refine Wl.eql rfl rfl rfl ?_
    refine Wl.assign rfl rfl ?_
    refine Wl.nil ?_
    refine Wx.then_n ?_
    refine Wc.condp rfl (fun h6 => ?_) (fun h6 => ?_)
    ·
      refine Wc.skip ?_
      refine Wx.then_n ?_
      refine Wc.condp rfl (fun h6 => ?_) (fun h6 => ?_)
      ·
        refine Wc.exit ?_
        refine Wx.then_e ?_
        refine Wx.then_e ?_
        refine Wx.block_o rfl ?_
        refine Wx.block_e ?_
        refine Wx.then_n ?_
        refine Wc.seq ?_
        refine Wc.seq ?_
        refine Wc.region ?_
        refine Wl.assign rfl rfl ?_
        refine Wl.nil ?_
        refine Wx.then_n ?_
        refine Wc.ret ?_
        refine Wx.then_r ?_
        refine Wx.block_r ?_
        refine Wx.then_r ?_
        refine Wx.block_r ?_
        refine Wx.then_r ?_
        exact Wx.retI rfl rfl (by unfold arity; (repeat' split) <;> omega)
      ·
        refine Wc.skip ?_
        refine Wx.then_n ?_
        refine Wc.seq ?_
        refine Wc.region ?_
        refine Wl.eql rfl rfl rfl ?_
        refine Wl.assign rfl rfl ?_
        refine Wl.nil ?_
        refine Wx.then_n ?_
        refine Wc.condp rfl (fun h10 => ?_) (fun h10 => ?_)
        ·
          refine Wc.exit ?_
          refine Wx.then_e ?_
          refine Wx.block_o rfl ?_
          refine Wx.block_o rfl ?_
          refine Wx.then_e ?_
          refine Wx.block_e ?_
          refine Wx.then_n ?_
          refine Wc.seq ?_
          refine Wc.seq ?_
          refine Wc.region ?_
          refine Wl.assign rfl rfl ?_
          refine Wl.nil ?_
          refine Wx.then_n ?_
          refine Wc.ret ?_
          refine Wx.then_r ?_
          refine Wx.block_r ?_
          refine Wx.then_r ?_
          exact Wx.retI rfl rfl (by unfold arity; (repeat' split) <;> omega)
        ·
          refine Wc.skip ?_
          refine Wx.then_n ?_
          refine Wc.exit ?_
          refine Wx.block_o rfl ?_
          refine Wx.block_o rfl ?_
          refine Wx.then_e ?_
          refine Wx.block_o rfl ?_
          refine Wx.then_e ?_
          refine Wx.block_e ?_
          refine Wx.then_n ?_
          refine Wc.seq ?_
          refine Wc.seq ?_
          refine Wc.region ?_
          refine Wl.move rfl rfl ?_
          refine Wl.gtr rfl rfl rfl ?_
          refine Wl.move rfl rfl ?_
          refine Wl.splitp 14 rfl (fun h14 => ?_) (fun h14 => ?_)
          ·
            refine Wl.move rfl rfl ?_
            refine Wl.lss rfl rfl rfl ?_
            refine Wl.pick_t rfl rfl rfl ?_
            refine Wl.nil ?_
            refine Wx.then_n ?_
            refine Wc.condp rfl (fun h17 => ?_) (fun h17 => ?_)
            ·
              refine Wc.seq ?_
              refine Wc.region ?_
              refine Wl.assign rfl rfl ?_
              refine Wl.nil ?_
              refine Wx.then_n ?_
              refine Wc.ret ?_
              refine Wx.then_r ?_
              exact Wx.retI rfl rfl (by unfold arity; (repeat' split) <;> omega)
            ·
              refine Wc.skip ?_
              refine Wx.then_n ?_
              refine Wc.seq ?_
              refine Wc.region ?_
              refine Wl.assign rfl rfl ?_
              refine Wl.nil ?_
              refine Wx.then_n ?_
              refine Wc.ret ?_
              exact Wx.retI rfl rfl (by unfold arity; (repeat' split) <;> omega)
          ·
            refine Wl.skip rfl rfl ?_
            refine Wl.skip rfl rfl ?_
            refine Wl.pick_f rfl rfl rfl ?_
            refine Wl.nil ?_
            refine Wx.then_n ?_
            refine Wc.cond_f rfl ?_
            refine Wc.skip ?_
            refine Wx.then_n ?_
            refine Wc.seq ?_
            refine Wc.region ?_
            refine Wl.assign rfl rfl ?_
            refine Wl.nil ?_
            refine Wx.then_n ?_
            refine Wc.ret ?_
            exact Wx.retI rfl rfl (by unfold arity; (repeat' split) <;> omega)
    ·
      refine Wc.seq ?_
      refine Wc.region ?_
      refine Wl.eql rfl rfl rfl ?_
      refine Wl.assign rfl rfl ?_
      refine Wl.nil ?_
      refine Wx.then_n ?_
      refine Wc.condp rfl (fun h6 => ?_) (fun h6 => ?_)
      ·
        refine Wc.skip ?_
        refine Wx.then_n ?_
        refine Wc.condp rfl (fun h6 => ?_) (fun h6 => ?_)
        ·
          refine Wc.exit ?_
          refine Wx.then_e ?_
          refine Wx.then_e ?_
          refine Wx.block_o rfl ?_
          refine Wx.block_e ?_
          refine Wx.then_n ?_
          refine Wc.seq ?_
          refine Wc.seq ?_
          refine Wc.region ?_
          refine Wl.assign rfl rfl ?_
          refine Wl.nil ?_
          refine Wx.then_n ?_
          refine Wc.ret ?_
          refine Wx.then_r ?_
          refine Wx.block_r ?_
          refine Wx.then_r ?_
          refine Wx.block_r ?_
          refine Wx.then_r ?_
          exact Wx.retI rfl rfl (by unfold arity; (repeat' split) <;> omega)
        ·
          refine Wc.skip ?_
          refine Wx.then_n ?_
          refine Wc.seq ?_
          refine Wc.region ?_
          refine Wl.eql rfl rfl rfl ?_
          refine Wl.assign rfl rfl ?_
          refine Wl.nil ?_
          refine Wx.then_n ?_
          refine Wc.condp rfl (fun h10 => ?_) (fun h10 => ?_)
          ·
            refine Wc.exit ?_
            refine Wx.then_e ?_
            refine Wx.block_o rfl ?_
            refine Wx.block_o rfl ?_
            refine Wx.then_e ?_
            refine Wx.block_e ?_
            refine Wx.then_n ?_
            refine Wc.seq ?_
            refine Wc.seq ?_
            refine Wc.region ?_
            refine Wl.assign rfl rfl ?_
            refine Wl.nil ?_
            refine Wx.then_n ?_
            refine Wc.ret ?_
            refine Wx.then_r ?_
            refine Wx.block_r ?_
            refine Wx.then_r ?_
            exact Wx.retI rfl rfl (by unfold arity; (repeat' split) <;> omega)
          ·
            refine Wc.skip ?_
            refine Wx.then_n ?_
            refine Wc.exit ?_
            refine Wx.block_o rfl ?_
            refine Wx.block_o rfl ?_
            refine Wx.then_e ?_
            refine Wx.block_o rfl ?_
            refine Wx.then_e ?_
            refine Wx.block_e ?_
            refine Wx.then_n ?_
            refine Wc.seq ?_
            refine Wc.seq ?_
            refine Wc.region ?_
            refine Wl.move rfl rfl ?_
            refine Wl.gtr rfl rfl rfl ?_
            refine Wl.move rfl rfl ?_
            refine Wl.splitp 14 rfl (fun h14 => ?_) (fun h14 => ?_)
            ·
              refine Wl.move rfl rfl ?_
              refine Wl.lss rfl rfl rfl ?_
              refine Wl.pick_t rfl rfl rfl ?_
              refine Wl.nil ?_
              refine Wx.then_n ?_
              refine Wc.condp rfl (fun h17 => ?_) (fun h17 => ?_)
              ·
                refine Wc.seq ?_
                refine Wc.region ?_
                refine Wl.assign rfl rfl ?_
                refine Wl.nil ?_
                refine Wx.then_n ?_
                refine Wc.ret ?_
                refine Wx.then_r ?_
                exact Wx.retI rfl rfl (by unfold arity; (repeat' split) <;> omega)
              ·
                refine Wc.skip ?_
                refine Wx.then_n ?_
                refine Wc.seq ?_
                refine Wc.region ?_
                refine Wl.assign rfl rfl ?_
                refine Wl.nil ?_
                refine Wx.then_n ?_
                refine Wc.ret ?_
                exact Wx.retI rfl rfl (by unfold arity; (repeat' split) <;> omega)
            ·
              refine Wl.skip rfl rfl ?_
              refine Wl.skip rfl rfl ?_
              refine Wl.pick_f rfl rfl rfl ?_
              refine Wl.nil ?_
              refine Wx.then_n ?_
              refine Wc.cond_f rfl ?_
              refine Wc.skip ?_
              refine Wx.then_n ?_
              refine Wc.seq ?_
              refine Wc.region ?_
              refine Wl.assign rfl rfl ?_
              refine Wl.nil ?_
              refine Wx.then_n ?_
              refine Wc.ret ?_
              exact Wx.retI rfl rfl (by unfold arity; (repeat' split) <;> omega)
      ·
        refine Wc.region ?_
        refine Wl.eql rfl rfl rfl ?_
        refine Wl.assign rfl rfl ?_
        refine Wl.nil ?_
        refine Wx.then_n ?_
        refine Wc.condp rfl (fun h6 => ?_) (fun h6 => ?_)
        ·
          refine Wc.exit ?_
          refine Wx.then_e ?_
          refine Wx.then_e ?_
          refine Wx.block_o rfl ?_
          refine Wx.block_e ?_
          refine Wx.then_n ?_
          refine Wc.seq ?_
          refine Wc.seq ?_
          refine Wc.region ?_
          refine Wl.assign rfl rfl ?_
          refine Wl.nil ?_
          refine Wx.then_n ?_
          refine Wc.ret ?_
          refine Wx.then_r ?_
          refine Wx.block_r ?_
          refine Wx.then_r ?_
          refine Wx.block_r ?_
          refine Wx.then_r ?_
          exact Wx.retI rfl rfl (by unfold arity; (repeat' split) <;> omega)
        ·
          refine Wc.skip ?_
          refine Wx.then_n ?_
          refine Wc.seq ?_
          refine Wc.region ?_
          refine Wl.eql rfl rfl rfl ?_
          refine Wl.assign rfl rfl ?_
          refine Wl.nil ?_
          refine Wx.then_n ?_
          refine Wc.condp rfl (fun h10 => ?_) (fun h10 => ?_)
          ·
            refine Wc.exit ?_
            refine Wx.then_e ?_
            refine Wx.block_o rfl ?_
            refine Wx.block_o rfl ?_
            refine Wx.then_e ?_
            refine Wx.block_e ?_
            refine Wx.then_n ?_
            refine Wc.seq ?_
            refine Wc.seq ?_
            refine Wc.region ?_
            refine Wl.assign rfl rfl ?_
            refine Wl.nil ?_
            refine Wx.then_n ?_
            refine Wc.ret ?_
            refine Wx.then_r ?_
            refine Wx.block_r ?_
            refine Wx.then_r ?_
            exact Wx.retI rfl rfl (by unfold arity; (repeat' split) <;> omega)
          ·
            refine Wc.skip ?_
            refine Wx.then_n ?_
            refine Wc.exit ?_
            refine Wx.block_o rfl ?_
            refine Wx.block_o rfl ?_
            refine Wx.then_e ?_
            refine Wx.block_o rfl ?_
            refine Wx.then_e ?_
            refine Wx.block_e ?_
            refine Wx.then_n ?_
            refine Wc.seq ?_
            refine Wc.seq ?_
            refine Wc.region ?_
            refine Wl.move rfl rfl ?_
            refine Wl.gtr rfl rfl rfl ?_
            refine Wl.move rfl rfl ?_
            refine Wl.splitp 14 rfl (fun h14 => ?_) (fun h14 => ?_)
            ·
              refine Wl.move rfl rfl ?_
              refine Wl.lss rfl rfl rfl ?_
              refine Wl.pick_t rfl rfl rfl ?_
              refine Wl.nil ?_
              refine Wx.then_n ?_
              refine Wc.condp rfl (fun h17 => ?_) (fun h17 => ?_)
              ·
                refine Wc.seq ?_
                refine Wc.region ?_
                refine Wl.assign rfl rfl ?_
                refine Wl.nil ?_
                refine Wx.then_n ?_
                refine Wc.ret ?_
                refine Wx.then_r ?_
                exact Wx.retI rfl rfl (by unfold arity; (repeat' split) <;> omega)
              ·
                refine Wc.skip ?_
                refine Wx.then_n ?_
                refine Wc.seq ?_
                refine Wc.region ?_
                refine Wl.assign rfl rfl ?_
                refine Wl.nil ?_
                refine Wx.then_n ?_
                refine Wc.ret ?_
                exact Wx.retI rfl rfl (by unfold arity; (repeat' split) <;> omega)
            ·
              refine Wl.skip rfl rfl ?_
              refine Wl.skip rfl rfl ?_
              refine Wl.pick_f rfl rfl rfl ?_
              refine Wl.nil ?_
              refine Wx.then_n ?_
              refine Wc.cond_f rfl ?_
              refine Wc.skip ?_
              refine Wx.then_n ?_
              refine Wc.seq ?_
              refine Wc.region ?_
              refine Wl.assign rfl rfl ?_
              refine Wl.nil ?_
              refine Wx.then_n ?_
              refine Wc.ret ?_
              exact Wx.retI rfl rfl (by unfold arity; (repeat' split) <;> omega)

end Go.Proofs.YtkffjbijamfnoaaGreat
