/-
  Jobs and logs that are looked at.
-/
import Derived.Test.YtkffjbijamfnoaaGreatLogs
set_option linter.unusedVariables false
set_option linter.unusedSimpArgs false
namespace Go.Proofs.YtkffjbijamfnoaaGreat
open Go.RowKit

def partItems (ps : List (List Item)) : Nat := (ps.map List.length).sum
/-- How many items there are. -/
def items (l : Logs) : Nat := (l.map partItems).sum
theorem partItems_take (ps : List (List Item)) (k : Nat) (hk : k < ps.length) : partItems (ps.take (k + 1)) = partItems (ps.take k) + ps[k].length := by
  unfold partItems; rw [List.take_succ_eq_append_getElem hk, List.map_append, List.sum_append]; simp
theorem items_take (l : Logs) (k : Nat) (hk : k < l.length) : items (l.take (k + 1)) = items (l.take k) + partItems l[k] := by
  unfold items; rw [List.take_succ_eq_append_getElem hk, List.map_append, List.sum_append]; simp
theorem partItems_le (ps : List (List Item)) (k : Nat) (hk : k < ps.length) : partItems (ps.take (k + 1)) ≤ partItems ps := by
  conv => rhs; rw [← List.take_append_drop (k + 1) ps]
  unfold partItems; rw [List.map_append, List.sum_append]; omega
theorem items_le (l : Logs) (k : Nat) (hk : k < l.length) : items (l.take (k + 1)) ≤ items l := by
  conv => rhs; rw [← List.take_append_drop (k + 1) l]
  unfold items; rw [List.map_append, List.sum_append]; omega

theorem items_calls (m : Nat → Prop) (A : Option Addr) (c : Nat) (l : Logs) (w : World) (hr : Ro m w (fun w => kParts.Row w A l)) (hc : l.length ≤ c) (hb : items l ≤ 1000000000) :
    Calls Tryz.prog 56 #[.slice A l.length c] w (PostV m w (.int .i64 (items l))) := by
  have hll0 := hr.now.1
  refine calls_of_Wc (args := [.slice A l.length c]) 32 Tryz.func56 rfl rfl (by simp) ?_
  refine Wc.start hr ?_
  refine Wc.seq ?_
  refine Wc.region ?_
  refine Wl.assign rfl rfl ?_
  refine Wl.nil ?_
  refine Wx.then_n ?_
  refine Wc.seq ?_
  refine Wc.region ?_
  refine Wl.assign rfl rfl ?_
  refine Wl.nil ?_
  refine Wx.then_n ?_
  refine Wc.seq ?_
  refine Wc.seq ?_
  refine Wc.region ?_
  refine Wl.assign rfl rfl ?_
  refine Wl.nil ?_
  refine Wx.then_n ?_
  refine Wc.block ?_
  refine Wc.loopS (G := Nat) (fun g => match g with | k => [(0, .slice A l.length c), (3, .int .i64 (items (l.take k))), (4, .int .i64 k)]) (fun g => match g with | k => k ≤ l.length) (fun g => match g with | k => []) (fun g => match g with | k => fun w => kParts.Row w A l) (fun g => match g with | k => l.length - k) 0 ⟨rfl, rfl, rfl, trivial⟩ (Nat.zero_le _) (fun w hw => hw) ?_
  rintro k hk0
  dsimp only
  refine Wc.seq ?_
  refine Wc.seq ?_
  refine Wc.region ?_
  refine Wl.move rfl rfl ?_
  refine Wl.move rfl rfl ?_
  refine Wl.len Tryz.underlying38 rfl rfl ?_
  refine Wl.lss rfl rfl rfl ?_
  refine Wl.nil ?_
  refine Wx.then_n ?_
  refine Wc.condp rfl (fun h9 => ?_) (fun h9 => ?_)
  ·
    have hk : k < l.length := by omega
    have hle := items_le l k hk
    have hst := items_take l k hk
    refine Wc.pure (p := ∃ ad, A = some ad) (fun w hw => hw.addr (fun w h => h) (by omega)) ?_
    rintro ⟨ad, rfl⟩
    refine Wc.exS (fun w hw => hw.slice_get (fun w h => h) k hk) ?_
    rintro ⟨A6, c6⟩ hc6
    dsimp only at hc6 ⊢
    refine Wc.pure (p := l[k].length ≤ 9223372036854775807) (fun w hw => hw.now.2.2.1) ?_
    intro hlk
    refine Wc.skip ?_
    refine Wx.then_n ?_
    refine Wc.seq ?_
    refine Wc.block ?_
    refine Wc.seq ?_
    refine Wc.region ?_
    refine Wl.assign rfl rfl ?_
    refine Wl.nil ?_
    refine Wx.then_n ?_
    refine Wc.block ?_
    refine Wc.loopS (G := Nat) (fun g => match g with | kk => [(0, .slice (some ad) l.length c), (3, .int .i64 (items (l.take k) + partItems (l[k].take kk) : Nat)), (4, .int .i64 k), (5, .int .i64 kk)]) (fun g => match g with | kk => kk ≤ l[k].length) (fun g => match g with | kk => []) (fun g => match g with | kk => fun w => kParts.Row w (some ad) l ∧ Cells w (ad.add (k * 1)) [.slice A6 l[k].length c6] ∧ (Kn.slice kItem).Row w A6 l[k]) (fun g => match g with | kk => l[k].length - kk) 0 ⟨rfl, rfl, rfl, rfl, trivial⟩ (Nat.zero_le _) (fun w hw => hw) ?_
    rintro kk hkk
    dsimp only
    refine Wc.seq ?_
    refine Wc.seq ?_
    refine Wc.region ?_
    refine Wl.move rfl rfl ?_
    refine Wl.move rfl rfl ?_
    refine Wl.move rfl rfl ?_
    refine Wl.idx Tryz.underlying38 t36 rfl rfl rfl hk ?_
    refine Wl.loadr (j := 0) (cs := [.slice A6 l[k].length c6]) t36 (fun w h => h.2.1) rfl rfl (Addr.add_zero' _).symm rfl ?_
    refine Wl.len Tryz.underlying36 rfl rfl ?_
    refine Wl.lss rfl rfl rfl ?_
    refine Wl.nil ?_
    refine Wx.then_n ?_
    refine Wc.condp rfl (fun h18 => ?_) (fun h18 => ?_)
    ·
      have hkk1 : kk < l[k].length := by omega
      have hle2 := partItems_le l[k] kk hkk1
      have hst2 := partItems_take l[k] kk hkk1
      refine Wc.pure (p := ∃ ad, A6 = some ad) (fun w hw => hw.addr (fun w h => h.2.2) (by omega)) ?_
      rintro ⟨ad6, rfl⟩
      refine Wc.exS (fun w hw => hw.slice_get (fun w h => h.2.2) kk hkk1) ?_
      rintro ⟨A9, c9⟩ hc9
      dsimp only at hc9 ⊢
      refine Wc.skip ?_
      refine Wx.then_n ?_
      refine Wc.seq ?_
      refine Wc.block ?_
      refine Wc.region ?_
      refine Wl.move rfl rfl ?_
      refine Wl.move rfl rfl ?_
      refine Wl.move rfl rfl ?_
      refine Wl.idx Tryz.underlying38 t36 rfl rfl rfl hk ?_
      refine Wl.loadr (j := 0) (cs := [.slice (some ad6) l[k].length c6]) t36 (fun w h => h.1.2.1) rfl rfl (Addr.add_zero' _).symm rfl ?_
      refine Wl.move rfl rfl ?_
      refine Wl.idx Tryz.underlying36 t22 rfl rfl rfl hkk1 ?_
      refine Wl.loadr (j := 0) (cs := [.slice A9 l[k][kk].length c9]) t22 (fun w h => h.2.1) rfl rfl (Addr.add_zero' _).symm rfl ?_
      refine Wl.len Tryz.underlying22 rfl rfl ?_
      refine Wl.add rfl rfl rfl (by omega) ?_
      refine Wl.assign rfl rfl ?_
      refine Wl.nil ?_
      refine Wx.block_n ?_
      refine Wx.then_n ?_
      refine Wc.region ?_
      refine Wl.move rfl rfl ?_
      refine Wl.add rfl rfl rfl (by omega) ?_
      refine Wl.assign rfl rfl ?_
      refine Wl.nil ?_
      exact Wx.againS (kk + 1) (by omega) ⟨rfl, congrArg (fun z => some (Value.int .i64 z)) (by rw [hst2]; omega), rfl, rfl, trivial⟩ hkk1 (fun w hw => hw.imp fun w h => h.1)
    ·
      refine Wc.exit ?_
      refine Wx.then_e ?_
      refine Wx.then_e ?_
      refine Wx.block_e ?_
      refine Wx.block_n ?_
      refine Wx.then_n ?_
      refine Wc.region ?_
      refine Wl.move rfl rfl ?_
      refine Wl.add rfl rfl rfl (by omega) ?_
      refine Wl.assign rfl rfl ?_
      refine Wl.nil ?_
      obtain rfl : kk = l[k].length := by omega
      exact Wx.againS (k + 1) (by omega) ⟨rfl, congrArg (fun z => some (Value.int .i64 z)) (by rw [hst, List.take_length]), rfl, trivial⟩ hk (fun w hw => hw.imp fun w h => h.1)
  ·
    refine Wc.exit ?_
    refine Wx.then_e ?_
    refine Wx.then_e ?_
    refine Wx.block_e ?_
    refine Wx.then_n ?_
    refine Wc.seq ?_
    refine Wc.region ?_
    refine Wl.move rfl rfl ?_
    refine Wl.assign rfl rfl ?_
    refine Wl.nil ?_
    refine Wx.then_n ?_
    refine Wc.ret ?_
    obtain rfl : k = l.length := by omega
    exact Wx.retI rfl rfl (by rw [List.take_length])

theorem partItems_bd : ∀ (ps : List (List Item)), ps.all partOk = true → partItems ps ≤ ps.length * 4096
  | [], _ => by simp [partItems]
  | p :: ps, h => by
    simp only [List.all_cons, Bool.and_eq_true] at h
    have h1 := partItems_bd ps h.2
    have h2 : p.length ≤ 4096 := by have := h.1; unfold partOk at this; simp only [Bool.and_eq_true, decide_eq_true_eq] at this; exact this.1
    have : partItems (p :: ps) = p.length + partItems ps := by simp [partItems]
    rw [this, List.length_cons]; omega
theorem items_bd : ∀ (ns : List Node) (l : Logs), (∀ x ∈ ns, wantParts x ≤ 4) → l.length = ns.length → (ns.zip l).all (fun x => partsOk x.1 x.2) = true → items l ≤ 16384 * l.length
  | _, [], _, _, _ => by simp [items]
  | [], _ :: _, _, h, _ => by simp at h
  | n :: ns, ps :: l, h1, h2, h3 => by
    simp only [List.zip_cons_cons, List.all_cons, Bool.and_eq_true] at h3
    have ih := items_bd ns l (fun x hx => h1 x (List.mem_cons_of_mem _ hx)) (by simpa using h2) h3.2
    have hw := h1 n (List.mem_cons_self ..)
    have hp := h3.1
    unfold partsOk at hp
    simp only [Bool.and_eq_true, decide_eq_true_eq] at hp
    have hb := partItems_bd ps hp.2
    have : items (ps :: l) = partItems ps + items l := by simp [items]
    rw [this, List.length_cons]
    omega
theorem node_par {ns : List Node} {x : Node} (h : nodeErr ns x = 0) : 1 ≤ x.par ∧ x.par ≤ 4 := by
  have key : ∀ (i b3 b7 b9 b11 b13 : Bool), (if b3 then (81 : Int) else if !i then 82 else if b7 then 84 else if b9 then 85 else if b11 then 86 else if b13 then 87 else 0) = 0 → b7 = false := by
    intro i b3 b7 b9 b11 b13
    cases i <;> cases b3 <;> cases b7 <;> simp
  rw [nodeErr_eq ns x _ _ _ _ _ rfl rfl rfl rfl rfl] at h
  have := key _ _ _ _ _ _ h
  simp at this
  omega
theorem jobErr_shape {ns : List Node} (h : jobErr ns = 0) : shapeErr ns = 0 := by
  unfold jobErr at h
  split at h
  · assumption
  · rename_i h1; exact Decidable.not_not.1 h1
theorem items_few {ns : List Node} {l : Logs} (h : jobErr ns = 0) (h2 : logsErr ns l = 0) : items l ≤ 196608 := by
  obtain ⟨_, hn, hz, _⟩ := shape_ok (jobErr_shape h)
  unfold logsErr at h2
  split at h2
  · omega
  rename_i hl
  split at h2
  · rename_i ha
    have := items_bd ns l (fun x hx => by have := node_par (hz x hx); unfold wantParts; split <;> omega) (by omega) ha
    omega
  · omega
/-- A node that may be looked at. -/
def nodeFit (x : Node) : Bool := !(decide (40 < x.ins.length) || decide (100 < x.e.light 100 40))
/-- A job and logs that are taken, and looked at. -/
def fitOk (ns : List Node) (l : Logs) : Bool := decide (ns.length ≤ 12) && ns.all nodeFit && decide (jobErr ns = 0) && decide (logsErr ns l = 0) && decide (items l ≤ 120)
theorem nodeFit_count {x : Node} (h : nodeFit x = true) : x.e.count ≤ 100 := by
  unfold nodeFit at h
  simp at h
  have := Expr.light_count x.e 100 40 (by omega) (by omega)
  omega
theorem fit_bad {ns : List Node} {l : Logs} (k : Nat) (hk : k < ns.length) (h : nodeFit ns[k] = false) : fitOk ns l = false := by
  unfold fitOk
  rw [show ns.all nodeFit = false from List.all_eq_false.2 ⟨_, List.getElem_mem hk, by rw [h]; simp⟩]
  simp

theorem fit_calls (m : Nat → Prop) (J A : Option Addr) (jc c : Nat) (ns : List Node) (l : Logs) (w : World) (hr : Ro m w (fun w => kNode.Row w J ns ∧ kParts.Row w A l)) (hjc : ns.length ≤ jc) (hc : l.length ≤ c) :
    Calls Tryz.prog 34 #[.agg #[.slice J ns.length jc], .slice A l.length c] w (PostV m w (.bool (fitOk ns l))) := by
  refine calls_of_Wc (args := [.agg #[.slice J ns.length jc], .slice A l.length c]) 47 Tryz.func34 rfl rfl (by simp) ?_
  refine Wc.start hr ?_
  refine Wc.seq ?_
  refine Wc.region ?_
  refine Wl.box rfl rfl rfl (fun b2 => ?_)
  refine Wl.assign rfl rfl ?_
  refine Wl.nil ?_
  refine Wx.then_n ?_
  refine Wc.seq ?_
  refine Wc.seq ?_
  refine Wc.region ?_
  refine Wl.fld ⟨_, 0, none⟩ fl34_0 rfl rfl rfl ?_
  refine Wl.loadb 0 0 t32 rfl rfl rfl rfl ?_
  refine Wl.len Tryz.underlying32 rfl rfl ?_
  refine Wl.gtr rfl rfl rfl ?_
  refine Wl.nil ?_
  refine Wx.then_n ?_
  refine Wc.condp rfl (fun h9 => ?_) (fun h9 => ?_)
  ·
    refine Wc.seq ?_
    refine Wc.region ?_
    refine Wl.assign rfl rfl ?_
    refine Wl.nil ?_
    refine Wx.then_n ?_
    refine Wc.ret ?_
    refine Wx.then_r ?_
    exact Wx.retB rfl rfl (by unfold fitOk; rw [decide_eq_false (show ¬ ns.length ≤ 12 by omega)]; rfl)
  ·
    refine Wc.skip ?_
    refine Wx.then_n ?_
    refine Wc.seq ?_
    refine Wc.seq ?_
    refine Wc.region ?_
    refine Wl.assign rfl rfl ?_
    refine Wl.nil ?_
    refine Wx.then_n ?_
    refine Wc.block ?_
    refine Wc.loopS (G := Nat) (fun g => match g with | k => [(1, .slice A l.length c), (2, .pointer (some ⟨b2, 0, none⟩)), (4, .bool false), (5, .int .i64 k)]) (fun g => match g with | k => k ≤ ns.length ∧ ∀ x ∈ ns.take k, nodeFit x = true) (fun g => match g with | k => [.box b2 [.slice J ns.length jc] 34]) (fun g => match g with | k => fun w => kNode.Row w J ns ∧ kParts.Row w A l) (fun g => match g with | k => ns.length - k) 0 ⟨rfl, rfl, rfl, rfl, trivial⟩ ⟨Nat.zero_le _, by simp⟩ (fun w hw => hw) ?_
    rintro k ⟨hk0, he⟩
    dsimp only
    refine Wc.seq ?_
    refine Wc.seq ?_
    refine Wc.region ?_
    refine Wl.move rfl rfl ?_
    refine Wl.fld ⟨_, 0, none⟩ fl34_0 rfl rfl rfl ?_
    refine Wl.loadb 0 0 t32 rfl rfl rfl rfl ?_
    refine Wl.len Tryz.underlying32 rfl rfl ?_
    refine Wl.lss rfl rfl rfl ?_
    refine Wl.nil ?_
    refine Wx.then_n ?_
    refine Wc.condp rfl (fun h14 => ?_) (fun h14 => ?_)
    ·
      have hk : k < ns.length := by omega
      refine Wc.pure (p := ∃ jd, J = some jd) (fun w hw => hw.addr (fun w h => h.1) (by omega)) ?_
      rintro ⟨jd, rfl⟩
      refine Wc.exS (fun w hw => hw.node_get (fun w h => h.1) k hk) ?_
      rintro ⟨⟨A2, c2⟩, A4, c4⟩ hcc
      dsimp only at hcc ⊢
      refine Wc.skip ?_
      refine Wx.then_n ?_
      refine Wc.seq ?_
      refine Wc.block ?_
      refine Wc.seq ?_
      refine Wc.region ?_
      refine Wl.fld ⟨_, 0, none⟩ fl34_0 rfl rfl rfl ?_
      refine Wl.loadb 0 0 t32 rfl rfl rfl rfl ?_
      refine Wl.move rfl rfl ?_
      refine Wl.idx Tryz.underlying32 t31 rfl rfl rfl hk ?_
      refine Wl.fld _ fl31_1 rfl rfl rfl ?_
      refine Wl.loadr (j := 1) (cs := (nodeCells ns[k] ((A2, c2), (A4, c4)))) t24 (fun w h => h.2.1) rfl rfl rfl rfl ?_
      refine Wl.len Tryz.underlying24 rfl rfl ?_
      refine Wl.gtr rfl rfl rfl ?_
      refine Wl.move rfl rfl ?_
      refine Wl.splitp 25 rfl (fun h25 => ?_) (fun h25 => ?_)
      ·
        refine Wl.skip rfl rfl ?_
        refine Wl.skip rfl rfl ?_
        refine Wl.skip rfl rfl ?_
        refine Wl.skip rfl rfl ?_
        refine Wl.skip rfl rfl ?_
        refine Wl.skip rfl rfl ?_
        refine Wl.skip rfl rfl ?_
        refine Wl.skip rfl rfl ?_
        refine Wl.pick_t rfl rfl rfl ?_
        refine Wl.nil ?_
        refine Wx.then_n ?_
        refine Wc.cond_t rfl ?_
        refine Wc.seq ?_
        refine Wc.region ?_
        refine Wl.assign rfl rfl ?_
        refine Wl.nil ?_
        refine Wx.then_n ?_
        refine Wc.ret ?_
        refine Wx.block_r ?_
        refine Wx.then_r ?_
        refine Wx.then_r ?_
        refine Wx.block_r ?_
        refine Wx.then_r ?_
        exact Wx.retB rfl rfl (fit_bad k hk (by unfold nodeFit; rw [decide_eq_true (show 40 < ns[k].ins.length by omega)]; rfl)).symm
      ·
        refine Wl.fld ⟨_, 0, none⟩ fl34_0 rfl rfl rfl ?_
        refine Wl.loadb 0 0 t32 rfl rfl rfl rfl ?_
        refine Wl.move rfl rfl ?_
        refine Wl.idx Tryz.underlying32 t31 rfl rfl rfl hk ?_
        refine Wl.fld _ fl31_3 rfl rfl rfl ?_
        refine Wl.loadrs (j := 3) (cs := (nodeCells ns[k] ((A2, c2), (A4, c4)))) t27 (fun w h => h.2.1) rfl rfl rfl rfl rfl ?_
        refine Wl.callV [.agg #[.int .i64 ns[k].e.op, .int .i64 ns[k].e.n, .slice A4 ns[k].e.l.length c4], .int .i64 100, .int .i64 40] Tryz.func53 rfl rfl rfl rfl (fun w hw => light_calls ns[k].e.count _ ns[k].e A4 c4 100 40 w (hw.read fun w h => h.2.2.2) hcc.2 (by omega) (by omega) (by omega) (by omega) (Nat.le_refl _)) ?_
        refine Wl.gtr rfl rfl rfl ?_
        refine Wl.pick_f rfl rfl rfl ?_
        refine Wl.nil ?_
        refine Wx.then_n ?_
        refine Wc.condp rfl (fun h34 => ?_) (fun h34 => ?_)
        ·
          refine Wc.seq ?_
          refine Wc.region ?_
          refine Wl.assign rfl rfl ?_
          refine Wl.nil ?_
          refine Wx.then_n ?_
          refine Wc.ret ?_
          refine Wx.block_r ?_
          refine Wx.then_r ?_
          refine Wx.then_r ?_
          refine Wx.block_r ?_
          refine Wx.then_r ?_
          exact Wx.retB rfl rfl (fit_bad k hk (by unfold nodeFit; rw [decide_eq_true (show 100 < ns[k].e.light 100 40 by omega)]; simp)).symm
        ·
          refine Wc.skip ?_
          refine Wx.block_n ?_
          refine Wx.then_n ?_
          refine Wc.region ?_
          refine Wl.move rfl rfl ?_
          refine Wl.add rfl rfl rfl (by omega) ?_
          refine Wl.assign rfl rfl ?_
          refine Wl.nil ?_
          exact Wx.againS (k + 1) (by omega) ⟨rfl, rfl, rfl, rfl, trivial⟩ ⟨hk, forall_take hk he (by unfold nodeFit; rw [decide_eq_false (show ¬ 40 < ns[k].ins.length by omega), decide_eq_false (show ¬ 100 < ns[k].e.light 100 40 by omega)]; rfl)⟩ (fun w hw => hw.imp fun w h => h.1)
    ·
      obtain rfl : k = ns.length := by omega
      rw [List.take_length] at he
      have hs : ∀ x ∈ ns, x.e.count ≤ 1099511627776 := fun x hx => Nat.le_trans (nodeFit_count (he x hx)) (by decide)
      have hall : ns.all nodeFit = true := List.all_eq_true.2 he
      refine Wc.exit ?_
      refine Wx.then_e ?_
      refine Wx.then_e ?_
      refine Wx.block_e ?_
      refine Wx.then_n ?_
      refine Wc.seq ?_
      refine Wc.seq ?_
      refine Wc.region ?_
      refine Wl.loadbw 0 t34 rfl rfl rfl rfl ?_
      refine Wl.callV [_] Tryz.func54 rfl rfl rfl rfl (fun w hw => check8_calls _ J jc ns w (hw.read fun w h => h.1) hjc hs) ?_
      refine Wl.neq rfl rfl rfl ?_
      refine Wl.move rfl rfl ?_
      refine Wl.splitp 38 rfl (fun h38 => ?_) (fun h38 => ?_)
      ·
        refine Wl.skip rfl rfl ?_
        refine Wl.skip rfl rfl ?_
        refine Wl.skip rfl rfl ?_
        refine Wl.skip rfl rfl ?_
        refine Wl.pick_t rfl rfl rfl ?_
        refine Wl.nil ?_
        refine Wx.then_n ?_
        refine Wc.cond_t rfl ?_
        refine Wc.seq ?_
        refine Wc.region ?_
        refine Wl.assign rfl rfl ?_
        refine Wl.nil ?_
        refine Wx.then_n ?_
        refine Wc.ret ?_
        refine Wx.then_r ?_
        exact Wx.retB rfl rfl (by unfold fitOk; rw [decide_eq_false h38]; simp)
      ·
        refine Wl.loadbw 0 t34 rfl rfl rfl rfl ?_
        refine Wl.move rfl rfl ?_
        refine Wl.callV [_, _] Tryz.func55 rfl rfl rfl rfl (fun w hw => logsof_calls _ J A jc c ns l w (hw.read fun w h => h) hjc hc) ?_
        refine Wl.neq rfl rfl rfl ?_
        refine Wl.pick_f rfl rfl rfl ?_
        refine Wl.nil ?_
        refine Wx.then_n ?_
        refine Wc.condp rfl (fun h43 => ?_) (fun h43 => ?_)
        ·
          refine Wc.seq ?_
          refine Wc.region ?_
          refine Wl.assign rfl rfl ?_
          refine Wl.nil ?_
          refine Wx.then_n ?_
          refine Wc.ret ?_
          refine Wx.then_r ?_
          exact Wx.retB rfl rfl (by unfold fitOk; rw [decide_eq_false h43]; simp)
        ·
          refine Wc.skip ?_
          refine Wx.then_n ?_
          refine Wc.seq ?_
          refine Wc.region ?_
          refine Wl.move rfl rfl ?_
          refine Wl.callV [_] Tryz.func56 rfl rfl rfl rfl (fun w hw => items_calls _ A c l w (hw.read fun w h => h.2) hc (by have := items_few (Decidable.not_not.1 h38) (Decidable.not_not.1 h43); omega)) ?_
          refine Wl.leq rfl rfl rfl ?_
          refine Wl.assign rfl rfl ?_
          refine Wl.nil ?_
          refine Wx.then_n ?_
          refine Wc.ret ?_
          exact Wx.retB rfl rfl (by unfold fitOk; rw [decide_eq_true (show ns.length ≤ 12 by omega), hall, decide_eq_true (Decidable.not_not.1 h38), decide_eq_true (Decidable.not_not.1 h43)]; simp only [Bool.true_and]; exact decide_eq_decide.2 (by omega))

end Go.Proofs.YtkffjbijamfnoaaGreat
