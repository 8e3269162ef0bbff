/-
  The order of a job's nodes.
-/
import Derived.Test.YtkffjbijamfnoaaGreatJobs8
import Derived.Test.YtkffjbijamfnoaaGreatHlRows
set_option linter.unusedVariables false
set_option linter.unusedSimpArgs false
namespace Go.Proofs.YtkffjbijamfnoaaGreat
open Go.RowKit

/-- A node that is not told yet, and all its inputs are. -/
def ready (ns : List Node) (out : List Int) (i : Nat) : Bool := !decide ((i : Int) ∈ out) && ((ns[i]?).map (fun n => n.ins.all (fun k => decide (k ∈ out)))).getD false
def free (ns : List Node) (out : List Int) : Nat := (List.range ns.length).countP (fun i : Nat => !decide ((i : Int) ∈ out))
theorem countP_lt {α : Type} {p q : α → Bool} : ∀ {l : List α}, (∀ x ∈ l, q x = true → p x = true) → (∃ x ∈ l, p x = true ∧ q x = false) → l.countP q < l.countP p
  | [], _, h => by obtain ⟨x, hx, _⟩ := h; cases hx
  | y :: l, h1, h2 => by
    have hle : l.countP q ≤ l.countP p := List.countP_mono_left (fun x hx => h1 x (List.mem_cons_of_mem _ hx))
    rw [List.countP_cons, List.countP_cons]
    obtain ⟨x, hx, hp, hq⟩ := h2
    rcases List.mem_cons.1 hx with rfl | hx
    · rw [hp, hq]; simp; omega
    · have := countP_lt (l := l) (fun x hx => h1 x (List.mem_cons_of_mem _ hx)) ⟨x, hx, hp, hq⟩
      have h3 := h1 y (List.mem_cons_self ..)
      cases hq : q y <;> cases hp : p y <;> simp_all <;> omega
theorem free_lt {ns : List Node} {out : List Int} {i : Nat} (hi : i < ns.length) (h : (i : Int) ∉ out) : free ns (out ++ [(i : Int)]) < free ns out := by
  refine countP_lt (fun x _ hx => ?_) ⟨i, List.mem_range.2 hi, by simpa using h, by simp⟩
  simp only [List.mem_append, Bool.not_eq_true', decide_eq_false_iff_not, not_or] at hx ⊢
  simpa using hx.1
theorem ready_iff {ns : List Node} {out : List Int} {i : Nat} (hi : i < ns.length) : ready ns out i = (!decide ((i : Int) ∈ out) && ns[i].ins.all (fun k => decide (k ∈ out))) := by
  unfold ready; rw [List.getElem?_eq_getElem hi]; rfl
theorem ready_lt {ns : List Node} {out : List Int} {i : Nat} (h : ready ns out i = true) : i < ns.length ∧ (i : Int) ∉ out := by
  by_cases hi : i < ns.length
  · rw [ready_iff hi] at h; simp only [Bool.and_eq_true] at h; exact ⟨hi, by simpa using h.1⟩
  · unfold ready at h; rw [List.getElem?_eq_none (by omega)] at h; simp at h
def orderGo (ns : List Node) (out : List Int) : List Int :=
  match h : (List.range ns.length).find? (ready ns out) with
  | none => out
  | some i => orderGo ns (out ++ [(i : Int)])
termination_by free ns out
decreasing_by exact free_lt (ready_lt (List.find?_some h)).1 (ready_lt (List.find?_some h)).2
/-- The nodes, each behind its inputs, the least one that may be first. -/
def order (ns : List Node) : List Int := orderGo ns []
theorem order_stop {ns : List Node} {out : List Int} (h : (List.range ns.length).find? (ready ns out) = none) : orderGo ns out = out := by rw [orderGo]; split <;> simp_all
theorem order_step {ns : List Node} {out : List Int} {i : Nat} (h : (List.range ns.length).find? (ready ns out) = some i) : orderGo ns out = orderGo ns (out ++ [(i : Int)]) := by rw [orderGo]; split <;> simp_all
theorem all_take {α : Type} (p : α → Bool) (l : List α) (k : Nat) (hk : k < l.length) : (l.take (k + 1)).all p = ((l.take k).all p && p l[k]) := by
  rw [List.take_succ_eq_append_getElem hk, List.all_append]; simp
def firstIn (l : List Nat) (p : Nat → Bool) : Int := match l.find? p with | some i => i | none => -1
theorem firstIn_drop (n k : Nat) (hk : k < n) (p : Nat → Bool) : firstIn ((List.range n).drop k) p = if p k then (k : Int) else firstIn ((List.range n).drop (k + 1)) p := by
  rw [List.drop_eq_getElem_cons (by simpa using hk)]
  simp only [firstIn, List.getElem_range, List.find?_cons]
  cases p k <;> simp
theorem firstIn_none {l : List Nat} {p : Nat → Bool} (h : firstIn l p < 0) : l.find? p = none := by
  unfold firstIn at h
  split at h
  · omega
  · assumption
theorem firstIn_some {l : List Nat} {p : Nat → Bool} (h : ¬ firstIn l p < 0) : ∃ q : Nat, l.find? p = some q ∧ firstIn l p = q := by
  unfold firstIn at h ⊢
  split
  · rename_i i hi; exact ⟨i, hi, rfl⟩
  · rename_i hi; rw [hi] at h; exact absurd (by decide) h
def doneOf (ns : List Node) (out : List Int) : List Bool := (List.range ns.length).map (fun i : Nat => decide ((i : Int) ∈ out))
theorem doneOf_len (ns : List Node) (out : List Int) : (doneOf ns out).length = ns.length := by simp [doneOf]
theorem doneOf_nil (ns : List Node) : List.replicate ns.length false = doneOf ns [] := by
  apply List.ext_getElem <;> simp [doneOf]
theorem doneOf_get (ns : List Node) (out : List Int) (i : Nat) (hi : i < (doneOf ns out).length) : (doneOf ns out)[i] = decide ((i : Int) ∈ out) := by simp [doneOf]
theorem doneOf_set (ns : List Node) (out : List Int) (i : Nat) : (doneOf ns out).set i true = doneOf ns (out ++ [(i : Int)]) := by
  apply List.ext_getElem
  · simp [doneOf]
  · intro j h1 h2
    rw [List.getElem_set, doneOf_get, doneOf_get _ _ _ (by simpa [doneOf] using h1)]
    by_cases e : i = j
    · subst e; simp
    · rw [if_neg e]
      have : ¬ (j : Int) = i := by omega
      simp [this]

theorem order8_calls (m : Nat → Prop) (J : Option Addr) (jc : Nat) (ns : List Node) (w : World) (hr : Ro m w (fun w => kNode.Row w J ns)) (hjc : ns.length ≤ jc) (hn : ns.length ≤ 1000) :
    Calls Tryz.prog 84 #[.agg #[.slice J ns.length jc]] w (PostO m w eInt 3 1 (order ns)) := by
  refine calls_of_Wc (args := [.agg #[.slice J ns.length jc]]) 76 Tryz.func84 rfl rfl (by simp) ?_
  refine Wc.start hr ?_
  refine Wc.seq ?_
  refine Wc.region ?_
  refine Wl.box rfl rfl rfl (fun b1 => ?_)
  refine Wl.assign rfl rfl ?_
  refine Wl.nil ?_
  refine Wx.then_n ?_
  refine Wc.seq ?_
  refine Wc.region ?_
  refine Wl.fld ⟨_, 0, none⟩ fl34_0 rfl rfl rfl ?_
  refine Wl.loadb 0 0 t32 rfl rfl rfl rfl ?_
  refine Wl.len Tryz.underlying32 rfl rfl ?_
  refine Wl.mk (enc := eBool) false Tryz.underlying186 t4 rfl rfl rfl rfl rfl (by omega) (by omega) (fun v13 => ?_)
  refine Wl.assign rfl rfl ?_
  refine Wl.nil ?_
  refine Wx.then_n ?_
  refine Wc.seq ?_
  refine Wc.region ?_
  refine Wl.assign rfl rfl ?_
  refine Wl.nil ?_
  refine Wx.then_n ?_
  refine Wc.block ?_
  refine Wc.loopS (G := List Int × Value × Value) (fun g => match g with | ⟨out, dv, ov⟩ => [(1, .pointer (some ⟨b1, 0, none⟩)), (3, dv), (4, ov)]) (fun g => match g with | ⟨out, dv, ov⟩ => orderGo ns [] = orderGo ns out ∧ (∀ k ∈ out, 0 ≤ k ∧ k < ns.length) ∧ out.length + free ns out ≤ ns.length) (fun g => match g with | ⟨out, dv, ov⟩ => [.box b1 [.slice J ns.length jc] 34, rowOf eBool dv 4 1 (doneOf ns out), rowOf eInt ov 3 1 out]) (fun g => match g with | ⟨out, dv, ov⟩ => fun w => kNode.Row w J ns) (fun g => match g with | ⟨out, dv, ov⟩ => free ns out) ⟨[], v13, .slice none 0 0⟩ ⟨rfl, rfl, rfl, trivial⟩ ⟨rfl, by simp, by have hcp := List.countP_le_length (l := List.range ns.length) (p := fun i : Nat => !decide ((i : Int) ∈ ([] : List Int))); rw [List.length_range] at hcp; unfold free; first | exact hcp | (simp only [List.length_nil, Nat.zero_add]; exact hcp)⟩ (fun w hw => by have := hw.nil 3 1; rw [doneOf_nil] at this; exact this) ?_
  rintro ⟨out, dv, ov⟩ ⟨ho, hin, hfree⟩
  dsimp only
  refine Wc.block ?_
  refine Wc.seq ?_
  refine Wc.region ?_
  refine Wl.assign rfl rfl ?_
  refine Wl.nil ?_
  refine Wx.then_n ?_
  refine Wc.seq ?_
  refine Wc.seq ?_
  refine Wc.region ?_
  refine Wl.fld ⟨_, 0, none⟩ fl34_0 rfl rfl rfl ?_
  refine Wl.loadb 0 0 t32 rfl rfl rfl rfl ?_
  refine Wl.len Tryz.underlying32 rfl rfl ?_
  refine Wl.sub rfl rfl rfl (by omega) ?_
  refine Wl.assign rfl rfl ?_
  refine Wl.nil ?_
  refine Wx.then_n ?_
  refine Wc.block ?_
  refine Wc.loopS (G := Int × Int) (fun g => match g with | ⟨i, nx⟩ => [(1, .pointer (some ⟨b1, 0, none⟩)), (3, dv), (4, ov), (5, .int .i64 nx), (6, .int .i64 i)]) (fun g => match g with | ⟨i, nx⟩ => -1 ≤ i ∧ i < ns.length ∧ nx = firstIn ((List.range ns.length).drop (i + 1).toNat) (ready ns out)) (fun g => match g with | ⟨i, nx⟩ => [.box b1 [.slice J ns.length jc] 34, rowOf eBool dv 4 1 (doneOf ns out), rowOf eInt ov 3 1 out]) (fun g => match g with | ⟨i, nx⟩ => fun w => kNode.Row w J ns) (fun g => match g with | ⟨i, nx⟩ => (i + 1).toNat) ⟨ns.length - 1, -1⟩ ⟨rfl, rfl, rfl, rfl, rfl, trivial⟩ ⟨by first | omega | (dsimp only; omega), by first | omega | (dsimp only; omega), by (try dsimp only); rw [show ((ns.length : Int) - 1 + 1).toNat = ns.length by omega, List.drop_of_length_le (by simp)]; rfl⟩ (fun w hw => hw) ?_
  rintro ⟨i, nx⟩ ⟨hi1, hi2, hnx⟩
  dsimp only
  refine Wc.seq ?_
  refine Wc.seq ?_
  refine Wc.region ?_
  refine Wl.move rfl rfl ?_
  refine Wl.geq rfl rfl rfl ?_
  refine Wl.nil ?_
  refine Wx.then_n ?_
  refine Wc.condp rfl (fun h19 => ?_) (fun h19 => ?_)
  ·
    obtain ⟨q, rfl⟩ : ∃ q : Nat, i = q := ⟨i.toNat, by omega⟩
    have hq : q < ns.length := by omega
    rw [show ((q : Int) + 1).toNat = q + 1 by omega] at hnx
    refine Wc.form 1 rfl (fun A3 c3 e3 hc3 hA3 => ?_)
    obtain ⟨g3, rfl⟩ := hA3 (by rw [doneOf_len]; omega)
    subst e3
    have hdl := doneOf_len ns out
    refine Wc.pure (p := ∃ jd, J = some jd) (fun w hw => hw.addr (fun w h => h) (by omega)) ?_
    rintro ⟨jd, rfl⟩
    refine Wc.exS (fun w hw => hw.node_get (fun w h => h) q hq) ?_
    rintro ⟨⟨A2, c2⟩, A4, c4⟩ hcc
    dsimp only at hcc ⊢
    refine Wc.pure (p := ns[q].ins.length ≤ 9223372036854775807) (fun w hw => hw.now.2.2.1.1) ?_
    intro hil
    refine Wc.skip ?_
    refine Wx.then_n ?_
    refine Wc.seq ?_
    refine Wc.block ?_
    refine Wc.seq ?_
    refine Wc.region ?_
    refine Wl.move rfl rfl ?_
    refine Wl.move rfl rfl ?_
    refine Wl.idx Tryz.underlying186 t4 rfl rfl rfl (by omega) ?_
    refine Wl.loadh (j := 0) (cs := eBool ((doneOf ns out)[q]'(by omega))) t4 (fun w hw => hw.own_cells 1 rfl rfl (fun _ => rfl) (fun _ => rfl) (by decide) q (by omega)) rfl rfl (Addr.add_zero' _).symm rfl ?_
    refine Wl.not rfl rfl ?_
    refine Wl.assign rfl rfl ?_
    refine Wl.nil ?_
    refine Wx.then_n ?_
    refine Wc.seq ?_
    refine Wc.seq ?_
    refine Wc.region ?_
    refine Wl.assign rfl rfl ?_
    refine Wl.nil ?_
    refine Wx.then_n ?_
    refine Wc.block ?_
    refine Wc.loopS (G := Nat × Bool) (fun g => match g with | ⟨kk, ok⟩ => [(1, .pointer (some ⟨b1, 0, none⟩)), (3, .slice (some ⟨g3, 0, none⟩) (doneOf ns out).length c3), (4, ov), (5, .int .i64 nx), (6, .int .i64 q), (7, .bool ok), (8, .int .i64 kk)]) (fun g => match g with | ⟨kk, ok⟩ => kk ≤ ns[q].ins.length ∧ ok = (!decide ((q : Int) ∈ out) && (ns[q].ins.take kk).all (fun k => decide (k ∈ out)))) (fun g => match g with | ⟨kk, ok⟩ => [.box b1 [.slice (some jd) ns.length jc] 34, rowOf eBool (.slice (some ⟨g3, 0, none⟩) (doneOf ns out).length c3) 4 1 (doneOf ns out), rowOf eInt ov 3 1 out]) (fun g => match g with | ⟨kk, ok⟩ => fun w => kNode.Row w (some jd) ns ∧ Cells w (jd.add (q * 10)) (nodeCells ns[q] ((A2, c2), (A4, c4))) ∧ kInt.Row w A2 ns[q].ins ∧ kExpr.Row w A4 ns[q].e.l) (fun g => match g with | ⟨kk, ok⟩ => ns[q].ins.length - kk) ⟨0, !(doneOf ns out)[q]'(by omega)⟩ ⟨rfl, rfl, rfl, rfl, rfl, rfl, rfl, trivial⟩ ⟨Nat.zero_le _, by rw [doneOf_get]; simp⟩ (fun w hw => hw) ?_
    rintro ⟨kk, ok⟩ ⟨hkk, hok⟩
    dsimp only
    refine Wc.seq ?_
    refine Wc.seq ?_
    refine Wc.region ?_
    refine Wl.move rfl rfl ?_
    refine Wl.fld ⟨_, 0, none⟩ fl34_0 rfl rfl rfl ?_
    refine Wl.loadb 0 0 t32 rfl rfl rfl rfl ?_
    refine Wl.move rfl rfl ?_
    refine Wl.idx Tryz.underlying32 t31 rfl rfl rfl hq ?_
    refine Wl.fld _ fl31_1 rfl rfl rfl ?_
    refine Wl.loadr (j := 1) (cs := (nodeCells ns[q] ((A2, c2), (A4, c4)))) t24 (fun w h => h.2.1) rfl rfl rfl rfl ?_
    refine Wl.len Tryz.underlying24 rfl rfl ?_
    refine Wl.lss rfl rfl rfl ?_
    refine Wl.nil ?_
    refine Wx.then_n ?_
    refine Wc.condp rfl (fun h35 => ?_) (fun h35 => ?_)
    ·
      have hk : kk < ns[q].ins.length := by omega
      refine Wc.pure (p := ∃ ad, A2 = some ad) (fun w hw => hw.addr (fun w h => h.2.2.1) (by omega)) ?_
      rintro ⟨ad2, rfl⟩
      have hall := all_take (fun k => decide (k ∈ out)) ns[q].ins kk hk
      refine Wc.skip ?_
      refine Wx.then_n ?_
      refine Wc.seq ?_
      refine Wc.block ?_
      refine Wc.seq ?_
      refine Wc.region ?_
      refine Wl.fld ⟨_, 0, none⟩ fl34_0 rfl rfl rfl ?_
      refine Wl.loadb 0 0 t32 rfl rfl rfl rfl ?_
      refine Wl.move rfl rfl ?_
      refine Wl.idx Tryz.underlying32 t31 rfl rfl rfl hq ?_
      refine Wl.fld _ fl31_1 rfl rfl rfl ?_
      refine Wl.loadr (j := 1) (cs := (nodeCells ns[q] ((some ad2, c2), (A4, c4)))) t24 (fun w h => h.2.1) rfl rfl rfl rfl ?_
      refine Wl.move rfl rfl ?_
      refine Wl.idx Tryz.underlying24 t3 rfl rfl rfl hk ?_
      refine Wl.loadr (j := 0) (cs := eInt ns[q].ins[kk]) t3 (fun w h => h.2.2.1.cells kk hk) rfl rfl (Addr.add_zero' _).symm rfl ?_
      refine Wl.assign rfl rfl ?_
      refine Wl.nil ?_
      refine Wx.then_n ?_
      generalize hkv : ns[q].ins[kk] = kv at hall ⊢
      refine Wc.region ?_
      refine Wl.move rfl rfl ?_
      refine Wl.move rfl rfl ?_
      refine Wl.split 48 rfl (fun h48 => ?_) (fun h48 => ?_)
      ·
        refine Wl.move rfl rfl ?_
        refine Wl.geq rfl rfl rfl ?_
        refine Wl.pick_t rfl rfl rfl ?_
        refine Wl.move rfl rfl ?_
        refine Wl.splitp 52 rfl (fun h52 => ?_) (fun h52 => ?_)
        ·
          refine Wl.move rfl rfl ?_
          refine Wl.move rfl rfl ?_
          refine Wl.len Tryz.underlying186 rfl rfl ?_
          refine Wl.lss rfl rfl rfl ?_
          refine Wl.pick_t rfl rfl rfl ?_
          refine Wl.move rfl rfl ?_
          refine Wl.splitp 58 rfl (fun h58 => ?_) (fun h58 => ?_)
          ·
            obtain ⟨kn, rfl⟩ : ∃ kn : Nat, kv = kn := ⟨kv.toNat, by omega⟩
            have hlt : kn < (doneOf ns out).length := by omega
            refine Wl.move rfl rfl ?_
            refine Wl.move rfl rfl ?_
            refine Wl.idx Tryz.underlying186 t4 rfl rfl rfl hlt ?_
            refine Wl.loadh (j := 0) (cs := eBool (doneOf ns out)[kn]) t4 (fun w hw => hw.own_cells 1 rfl rfl (fun _ => rfl) (fun _ => rfl) (by decide) kn hlt) rfl rfl (Addr.add_zero' _).symm rfl ?_
            refine Wl.pick_t rfl rfl rfl ?_
            refine Wl.assign rfl rfl ?_
            refine Wl.nil ?_
            refine Wx.block_n ?_
            refine Wx.then_n ?_
            refine Wc.region ?_
            refine Wl.move rfl rfl ?_
            refine Wl.add rfl rfl rfl (by omega) ?_
            refine Wl.assign rfl rfl ?_
            refine Wl.nil ?_
            exact Wx.againS ⟨kk + 1, _⟩ (by first | omega | (dsimp only; omega)) ⟨rfl, rfl, rfl, rfl, rfl, rfl, rfl, trivial⟩ ⟨hk, by (try dsimp only); rw [hall, ← Bool.and_assoc, ← hok]; rw [doneOf_get, h48]; simp⟩ (fun w hw => hw)
          ·
            refine Wl.skip rfl rfl ?_
            refine Wl.skip rfl rfl ?_
            refine Wl.skip rfl rfl ?_
            refine Wl.skip rfl rfl ?_
            refine Wl.pick_f rfl rfl rfl ?_
            refine Wl.assign rfl rfl ?_
            refine Wl.nil ?_
            refine Wx.block_n ?_
            refine Wx.then_n ?_
            refine Wc.region ?_
            refine Wl.move rfl rfl ?_
            refine Wl.add rfl rfl rfl (by omega) ?_
            refine Wl.assign rfl rfl ?_
            refine Wl.nil ?_
            exact Wx.againS ⟨kk + 1, false⟩ (by first | omega | (dsimp only; omega)) ⟨rfl, rfl, rfl, rfl, rfl, rfl, rfl, trivial⟩ ⟨hk, by (try dsimp only); rw [hall, ← Bool.and_assoc, ← hok]; rw [show decide (kv ∈ out) = false from decide_eq_false (fun h => by have := hin kv h; omega)]; simp⟩ (fun w hw => hw)
        ·
          refine Wl.skip rfl rfl ?_
          refine Wl.skip rfl rfl ?_
          refine Wl.skip rfl rfl ?_
          refine Wl.skip rfl rfl ?_
          refine Wl.pick_f rfl rfl rfl ?_
          refine Wl.move rfl rfl ?_
          refine Wl.skip rfl rfl ?_
          refine Wl.skip rfl rfl ?_
          refine Wl.skip rfl rfl ?_
          refine Wl.skip rfl rfl ?_
          refine Wl.pick_f rfl rfl rfl ?_
          refine Wl.assign rfl rfl ?_
          refine Wl.nil ?_
          refine Wx.block_n ?_
          refine Wx.then_n ?_
          refine Wc.region ?_
          refine Wl.move rfl rfl ?_
          refine Wl.add rfl rfl rfl (by omega) ?_
          refine Wl.assign rfl rfl ?_
          refine Wl.nil ?_
          exact Wx.againS ⟨kk + 1, false⟩ (by first | omega | (dsimp only; omega)) ⟨rfl, rfl, rfl, rfl, rfl, rfl, rfl, trivial⟩ ⟨hk, by (try dsimp only); rw [hall, ← Bool.and_assoc, ← hok]; rw [show decide (kv ∈ out) = false from decide_eq_false (fun h => by have := hin kv h; omega)]; simp⟩ (fun w hw => hw)
      ·
        refine Wl.skip rfl rfl ?_
        refine Wl.skip rfl rfl ?_
        refine Wl.pick_f rfl rfl rfl ?_
        refine Wl.move rfl rfl ?_
        refine Wl.skip rfl rfl ?_
        refine Wl.skip rfl rfl ?_
        refine Wl.skip rfl rfl ?_
        refine Wl.skip rfl rfl ?_
        refine Wl.pick_f rfl rfl rfl ?_
        refine Wl.move rfl rfl ?_
        refine Wl.skip rfl rfl ?_
        refine Wl.skip rfl rfl ?_
        refine Wl.skip rfl rfl ?_
        refine Wl.skip rfl rfl ?_
        refine Wl.pick_f rfl rfl rfl ?_
        refine Wl.assign rfl rfl ?_
        refine Wl.nil ?_
        refine Wx.block_n ?_
        refine Wx.then_n ?_
        refine Wc.region ?_
        refine Wl.move rfl rfl ?_
        refine Wl.add rfl rfl rfl (by omega) ?_
        refine Wl.assign rfl rfl ?_
        refine Wl.nil ?_
        exact Wx.againS ⟨kk + 1, false⟩ (by first | omega | (dsimp only; omega)) ⟨rfl, rfl, rfl, rfl, rfl, rfl, rfl, trivial⟩ ⟨hk, by (try dsimp only); rw [hall, ← Bool.and_assoc, ← hok]; rw [h48]; simp⟩ (fun w hw => hw)
    ·
      obtain rfl : kk = ns[q].ins.length := by omega
      rw [List.take_length, ← ready_iff hq] at hok
      refine Wc.exit ?_
      refine Wx.then_e ?_
      refine Wx.then_e ?_
      refine Wx.block_e ?_
      refine Wx.then_n ?_
      refine Wc.seq ?_
      refine Wc.region ?_
      refine Wl.move rfl rfl ?_
      refine Wl.nil ?_
      refine Wx.then_n ?_
      refine Wc.cond rfl (fun h64 => ?_) (fun h64 => ?_)
      ·
        refine Wc.region ?_
        refine Wl.move rfl rfl ?_
        refine Wl.assign rfl rfl ?_
        refine Wl.nil ?_
        refine Wx.block_n ?_
        refine Wx.then_n ?_
        refine Wc.region ?_
        refine Wl.move rfl rfl ?_
        refine Wl.sub rfl rfl rfl (by omega) ?_
        refine Wl.assign rfl rfl ?_
        refine Wl.nil ?_
        exact Wx.againS ⟨(q : Int) - 1, q⟩ (by first | omega | (dsimp only; omega)) ⟨rfl, rfl, rfl, rfl, rfl, trivial⟩ ⟨by first | omega | (dsimp only; omega), by first | omega | (dsimp only; omega), by (try dsimp only); rw [show ((q : Int) - 1 + 1).toNat = q by omega, firstIn_drop _ _ hq, if_pos (by rw [← hok, h64])]⟩ (fun w hw => hw.imp fun w h => h.1)
      ·
        refine Wc.skip ?_
        refine Wx.block_n ?_
        refine Wx.then_n ?_
        refine Wc.region ?_
        refine Wl.move rfl rfl ?_
        refine Wl.sub rfl rfl rfl (by omega) ?_
        refine Wl.assign rfl rfl ?_
        refine Wl.nil ?_
        exact Wx.againS ⟨(q : Int) - 1, nx⟩ (by first | omega | (dsimp only; omega)) ⟨rfl, rfl, rfl, rfl, rfl, trivial⟩ ⟨by first | omega | (dsimp only; omega), by first | omega | (dsimp only; omega), by (try dsimp only); rw [show ((q : Int) - 1 + 1).toNat = q by omega, firstIn_drop _ _ hq, if_neg (by rw [← hok, h64]; simp)]; exact hnx⟩ (fun w hw => hw.imp fun w h => h.1)
  ·
    obtain rfl : i = -1 := by omega
    rw [show ((-1 : Int) + 1).toNat = 0 by omega, List.drop_zero] at hnx
    refine Wc.exit ?_
    refine Wx.then_e ?_
    refine Wx.then_e ?_
    refine Wx.block_e ?_
    refine Wx.then_n ?_
    refine Wc.seq ?_
    refine Wc.seq ?_
    refine Wc.region ?_
    refine Wl.move rfl rfl ?_
    refine Wl.lss rfl rfl rfl ?_
    refine Wl.nil ?_
    refine Wx.then_n ?_
    refine Wc.condp rfl (fun h67 => ?_) (fun h67 => ?_)
    ·
      have hno : (List.range ns.length).find? (ready ns out) = none := firstIn_none (by omega)
      refine Wc.seq ?_
      refine Wc.region ?_
      refine Wl.move rfl rfl ?_
      refine Wl.assign rfl rfl ?_
      refine Wl.nil ?_
      refine Wx.then_n ?_
      refine Wc.ret ?_
      refine Wx.then_r ?_
      refine Wx.block_r ?_
      refine Wx.then_r ?_
      refine Wx.block_r ?_
      rw [show order ns = out by rw [order, ho, order_stop hno]]
      exact Wx.retO rfl rfl (fun w hw => hw.drop 0 |>.drop 0)
    ·
      obtain ⟨q, hf, hqe⟩ := firstIn_some (l := List.range ns.length) (p := ready ns out) (by omega)
      obtain rfl : nx = q := by omega
      have hrq := ready_lt (List.find?_some hf)
      have hfr := free_lt hrq.1 hrq.2
      refine Wc.form 1 rfl (fun A3 c3 e3 hc3 hA3 => ?_)
      obtain ⟨g3, rfl⟩ := hA3 (by rw [doneOf_len]; omega)
      subst e3
      have hdl := doneOf_len ns out
      refine Wc.skip ?_
      refine Wx.then_n ?_
      refine Wc.seq ?_
      refine Wc.region ?_
      refine Wl.move rfl rfl ?_
      refine Wl.move rfl rfl ?_
      refine Wl.idx Tryz.underlying186 t4 rfl rfl rfl (by omega) ?_
      refine Wl.storee 1 (q) 0 (true) t4 rfl rfl rfl rfl (fun _ => rfl) rfl rfl rfl (by omega) (addr_at _ _) (Nat.le_of_ble_eq_true rfl) rfl ?_
      refine Wl.nil ?_
      refine Wx.then_n ?_
      refine Wc.region ?_
      refine Wl.move rfl rfl ?_
      refine Wl.move rfl rfl ?_
      refine Wl.slice1 Tryz.underlying24 t3 rfl rfl rfl rfl rfl rfl (fun b74 => ?_)
      refine Wl.app1e 2 3 ((q : Int)) Tryz.underlying24 t3 rfl rfl rfl rfl rfl rfl rfl rfl rfl rfl rfl (by omega) (fun v75 => ?_)
      refine Wl.assign rfl rfl ?_
      refine Wl.nil ?_
      refine Wx.block_n ?_
      exact Wx.againS ⟨out ++ [(q : Int)], _, _⟩ hfr ⟨rfl, rfl, rfl, trivial⟩ ⟨by rw [ho, order_step hf], fun k hk => by (rcases List.mem_append.1 hk with hk | hk; exact hin k hk; simp at hk; omega), by dsimp only; rw [List.length_append, List.length_singleton]; omega⟩ (fun w hw => by have := hw.take 3; simp only [List.take, List.set, doneOf_set] at this; exact this)

def mayOf (dl : List Bool) (i : Int) : Bool := decide (0 ≤ i) && decide (i < dl.length) && (dl[i.toNat]?).getD false
theorem mayOf_done {ns : List Node} {out : List Int} (hin : ∀ k ∈ out, 0 ≤ k ∧ k < ns.length) (i : Int) : mayOf (doneOf ns out) i = decide (i ∈ out) := by
  unfold mayOf
  by_cases h : 0 ≤ i ∧ i < ns.length
  · obtain ⟨k, rfl⟩ : ∃ k : Nat, i = k := ⟨i.toNat, by omega⟩
    have hk : k < (doneOf ns out).length := by rw [doneOf_len]; omega
    rw [decide_eq_true h.1, decide_eq_true (by omega), Int.toNat_natCast, List.getElem?_eq_getElem hk, doneOf_get]
    simp
  · rw [show decide (i ∈ out) = false from decide_eq_false (fun h' => h (hin i h')), doneOf_len]
    by_cases h1 : 0 ≤ i
    · rw [decide_eq_false (show ¬ i < ns.length by omega)]; simp
    · rw [decide_eq_false h1]; rfl

theorem may_calls (m : Nat → Prop) (i : Int) (ad : Addr) (A : Option Addr) (c : Nat) (dl : List Bool) (w : World) (hr : Ro m w (fun w => Cells w ad [.slice A dl.length c] ∧ kBool.Row w A dl)) :
    Calls Tryz.prog 139 #[.int .i64 i, .pointer (some ad)] w (PostV m w (.bool (mayOf dl i))) := by
  refine calls_of_Wc (args := [.int .i64 i, .pointer (some ad)]) 18 Tryz.func139 rfl rfl (by simp) ?_
  refine Wc.start hr ?_
  refine Wc.seq ?_
  refine Wc.region ?_
  refine Wl.assign rfl rfl ?_
  refine Wl.nil ?_
  refine Wx.then_n ?_
  refine Wc.seq ?_
  refine Wc.region ?_
  refine Wl.move rfl rfl ?_
  refine Wl.geq rfl rfl rfl ?_
  refine Wl.move rfl rfl ?_
  refine Wl.splitp 6 rfl (fun h6 => ?_) (fun h6 => ?_)
  ·
    refine Wl.move rfl rfl ?_
    refine Wl.loadr (j := 0) (cs := [.slice A dl.length c]) t186 (fun w h => h.1) rfl rfl (Addr.add_zero' _).symm rfl ?_
    refine Wl.len Tryz.underlying186 rfl rfl ?_
    refine Wl.lss rfl rfl rfl ?_
    refine Wl.pick_t rfl rfl rfl ?_
    refine Wl.move rfl rfl ?_
    refine Wl.splitp 12 rfl (fun h12 => ?_) (fun h12 => ?_)
    ·
      obtain ⟨k, rfl⟩ : ∃ k : Nat, i = k := ⟨i.toNat, by omega⟩
      have hk : k < dl.length := by omega
      refine Wl.loadr (j := 0) (cs := [.slice A dl.length c]) t186 (fun w h => h.1) rfl rfl (Addr.add_zero' _).symm rfl ?_
      refine Wl.move rfl rfl ?_
      refine Wl.pure (p := ∃ jd, A = some jd) (fun w hw => hw.addr (fun w h => h.2) (by omega)) ?_
      rintro ⟨jd, rfl⟩
      refine Wl.idx Tryz.underlying186 t4 rfl rfl rfl hk ?_
      refine Wl.loadr (j := 0) (cs := eBool dl[k]) t4 (fun w h => h.2.cells k hk) rfl rfl (Addr.add_zero' _).symm rfl ?_
      refine Wl.pick_t rfl rfl rfl ?_
      refine Wl.assign rfl rfl ?_
      refine Wl.nil ?_
      refine Wx.then_n ?_
      refine Wc.ret ?_
      exact Wx.retB rfl rfl (by unfold mayOf; rw [decide_eq_true (show (0 : Int) ≤ k by omega), decide_eq_true (show (k : Int) < dl.length by omega), Int.toNat_natCast, List.getElem?_eq_getElem hk]; rfl)
    ·
      refine Wl.skip rfl rfl ?_
      refine Wl.skip rfl rfl ?_
      refine Wl.skip rfl rfl ?_
      refine Wl.skip rfl rfl ?_
      refine Wl.pick_f rfl rfl rfl ?_
      refine Wl.assign rfl rfl ?_
      refine Wl.nil ?_
      refine Wx.then_n ?_
      refine Wc.ret ?_
      exact Wx.retB rfl rfl (by unfold mayOf; rw [decide_eq_false (show ¬ i < dl.length by omega)]; simp)
  ·
    refine Wl.skip rfl rfl ?_
    refine Wl.skip rfl rfl ?_
    refine Wl.skip rfl rfl ?_
    refine Wl.skip rfl rfl ?_
    refine Wl.pick_f rfl rfl rfl ?_
    refine Wl.move rfl rfl ?_
    refine Wl.skip rfl rfl ?_
    refine Wl.skip rfl rfl ?_
    refine Wl.skip rfl rfl ?_
    refine Wl.skip rfl rfl ?_
    refine Wl.pick_f rfl rfl rfl ?_
    refine Wl.assign rfl rfl ?_
    refine Wl.nil ?_
    refine Wx.then_n ?_
    refine Wc.ret ?_
    exact Wx.retB rfl rfl (by unfold mayOf; rw [decide_eq_false (show ¬ 0 ≤ i by omega)]; rfl)

theorem may_at {w0 w : World} {m0 m : Nat → Prop} {L : List Blk} {R : World → Prop} (hw : St w0 m0 m L R w) (M : Nat → Prop) (i j : Nat) {A : Option Addr} {n c b : Nat} {dl : List Bool} {t : TypeId} (hL : L[i]? = some (rowOf eBool (.slice A n c) 4 1 dl)) (hL2 : L[j]? = some (.box b [.slice A n c] t)) (hn : dl.length = n) (x : Int) {r : Bool} (hr : mayOf dl x = r) :
    Calls Tryz.prog 139 #[.int .i64 x, .pointer (some ⟨b, 0, none⟩)] w (PostV M w (.bool r)) := by
  subst hn
  subst hr
  refine may_calls (fun _ => False) x ⟨b, 0, none⟩ A c dl w (hw.readall fun w _ hl => ⟨Blk.box_cells (hl _ (List.mem_of_getElem? hL2)), ?_⟩)
  obtain ⟨A', c', e, _, hrow⟩ := own_row_pure (enc := eBool) (sz := 1) (fun _ => rfl) (fun _ => rfl) (by decide) (hl _ (List.mem_of_getElem? hL)) rfl
  injection e with e1 e2 e3
  subst e1
  exact hrow

theorem order_calls (m : Nat → Prop) (J : Option Addr) (jc : Nat) (ns : List Node) (w : World) (hr : Ro m w (fun w => kNode.Row w J ns)) (hjc : ns.length ≤ jc) (hn : ns.length ≤ 1000) :
    Calls Tryz.prog 91 #[.agg #[.slice J ns.length jc]] w (PostO m w eInt 3 1 (order ns)) := by
  refine calls_of_Wc (args := [.agg #[.slice J ns.length jc]]) 48 Tryz.func91 rfl rfl (by simp) ?_
  refine Wc.start hr ?_
  refine Wc.seq ?_
  refine Wc.region ?_
  refine Wl.box rfl rfl rfl (fun b1 => ?_)
  refine Wl.assign rfl rfl ?_
  refine Wl.nil ?_
  refine Wx.then_n ?_
  refine Wc.scope ?_
  refine Wc.seq ?_
  refine Wc.region ?_
  refine Wl.assign rfl rfl ?_
  refine Wl.nil ?_
  refine Wx.then_n ?_
  refine Wc.seq ?_
  refine Wc.region ?_
  refine Wl.fld ⟨_, 0, none⟩ fl34_0 rfl rfl rfl ?_
  refine Wl.loadb 0 0 t32 rfl rfl rfl rfl ?_
  refine Wl.len Tryz.underlying32 rfl rfl ?_
  refine Wl.mk (enc := eBool) false Tryz.underlying186 t4 rfl rfl rfl rfl rfl (by omega) (by omega) (fun v13 => ?_)
  refine Wl.alloc t186 rfl rfl (fun b4 => ?_)
  refine Wl.form 1 rfl (fun A13 c13 e13 _ _ => ?_)
  rw [List.length_replicate] at e13
  subst e13
  refine Wl.storew 2 t186 rfl rfl rfl rfl rfl rfl rfl ?_
  refine Wl.nil ?_
  refine Wx.then_n ?_
  refine Wc.seq ?_
  refine Wc.region ?_
  refine Wl.mkfun [_] rfl rfl ?_
  refine Wl.assign rfl rfl ?_
  refine Wl.nil ?_
  refine Wx.then_n ?_
  refine Wc.seq ?_
  refine Wc.label ?_
  refine Wx.then_n ?_
  refine Wc.block ?_
  refine Wc.loopS (G := List Int × Value × Value) (fun g => match g with | ⟨out, dv, ov⟩ => [(1, .pointer (some ⟨b1, 0, none⟩)), (3, ov), (4, .pointer (some ⟨b4, 0, none⟩)), (5, .func (.func 139) #[] #[.pointer (some ⟨b4, 0, none⟩)])]) (fun g => match g with | ⟨out, dv, ov⟩ => orderGo ns [] = orderGo ns out ∧ (∀ k ∈ out, 0 ≤ k ∧ k < ns.length) ∧ out.length + free ns out ≤ ns.length) (fun g => match g with | ⟨out, dv, ov⟩ => [.box b1 [.slice J ns.length jc] 34, rowOf eBool dv 4 1 (doneOf ns out), .box b4 [dv] 186, rowOf eInt ov 3 1 out]) (fun g => match g with | ⟨out, dv, ov⟩ => fun w => kNode.Row w J ns) (fun g => match g with | ⟨out, dv, ov⟩ => free ns out) ⟨[], .slice A13 ns.length c13, .slice none 0 0⟩ ⟨rfl, rfl, rfl, rfl, trivial⟩ ⟨rfl, by simp, by have hcp := List.countP_le_length (l := List.range ns.length) (p := fun i : Nat => !decide ((i : Int) ∈ ([] : List Int))); rw [List.length_range] at hcp; unfold free; first | exact hcp | (simp only [List.length_nil, Nat.zero_add]; exact hcp)⟩ (fun w hw => by have := hw.nil 3 1; rw [doneOf_nil] at this; exact this) ?_
  rintro ⟨out, dv, ov⟩ ⟨ho, hin, hfree⟩
  dsimp only
  refine Wc.block ?_
  refine Wc.scope ?_
  refine Wc.seq ?_
  refine Wc.label ?_
  refine Wx.then_n ?_
  refine Wc.seq ?_
  refine Wc.seq ?_
  refine Wc.region ?_
  refine Wl.fld ⟨_, 0, none⟩ fl34_0 rfl rfl rfl ?_
  refine Wl.loadb 0 0 t32 rfl rfl rfl rfl ?_
  refine Wl.len Tryz.underlying32 rfl rfl ?_
  refine Wl.move rfl rfl ?_
  refine Wl.nil ?_
  refine Wx.then_n ?_
  refine Wc.block ?_
  refine Wc.loopS (G := Nat) (fun g => match g with | q => [(1, .pointer (some ⟨b1, 0, none⟩)), (3, ov), (4, .pointer (some ⟨b4, 0, none⟩)), (5, .func (.func 139) #[] #[.pointer (some ⟨b4, 0, none⟩)]), (16, .slice J ns.length jc), (17, .int .i64 ns.length), (18, .int .i64 q)]) (fun g => match g with | q => q ≤ ns.length ∧ ∀ j ∈ List.range q, ready ns out j = false) (fun g => match g with | q => [.box b1 [.slice J ns.length jc] 34, rowOf eBool dv 4 1 (doneOf ns out), .box b4 [dv] 186, rowOf eInt ov 3 1 out]) (fun g => match g with | q => fun w => kNode.Row w J ns) (fun g => match g with | q => ns.length - q) 0 ⟨rfl, rfl, rfl, rfl, rfl, rfl, rfl, trivial⟩ ⟨Nat.zero_le _, by simp⟩ (fun w hw => hw) ?_
  rintro q ⟨hq0, hnr⟩
  dsimp only
  refine Wc.seq ?_
  refine Wc.region ?_
  refine Wl.lss rfl rfl rfl ?_
  refine Wl.nil ?_
  refine Wx.then_n ?_
  refine Wc.seq ?_
  refine Wc.condp rfl (fun h19 => ?_) (fun h19 => ?_)
  ·
    have hq : q < ns.length := by omega
    refine Wc.form 1 rfl (fun A3 c3 e3 hc3 hA3 => ?_)
    obtain ⟨g3, rfl⟩ := hA3 (by rw [doneOf_len]; omega)
    subst e3
    have hdl := doneOf_len ns out
    refine Wc.pure (p := ∃ jd, J = some jd) (fun w hw => hw.addr (fun w h => h) (by omega)) ?_
    rintro ⟨jd, rfl⟩
    refine Wc.exS (fun w hw => hw.node_get (fun w h => h) q hq) ?_
    rintro ⟨⟨A2, c2⟩, A4, c4⟩ hcc
    dsimp only at hcc ⊢
    refine Wc.pure (p := ns[q].ins.length ≤ 9223372036854775807) (fun w hw => hw.now.2.2.1.1) ?_
    intro hil
    have hnr1 : ready ns out q = false → ∀ j ∈ List.range (q + 1), ready ns out j = false := fun h j hj => by (rw [List.range_succ] at hj; rcases List.mem_append.1 hj with hj | hj; exact hnr j hj; simp at hj; subst hj; exact h)
    refine Wc.skip ?_
    refine Wx.then_n ?_
    refine Wc.seq ?_
    refine Wc.block ?_
    refine Wc.seq ?_
    refine Wc.region ?_
    refine Wl.move rfl rfl ?_
    refine Wl.idx Tryz.underlying32 t31 rfl rfl rfl hq ?_
    refine Wl.loadrw (cs := (nodeCells ns[q] ((A2, c2), (A4, c4)))) t31 (fun w h => h.2.1) rfl rfl rfl ?_
    refine Wl.alloc t31 rfl rfl (fun b7 => ?_)
    refine Wl.assign rfl rfl ?_
    refine Wl.storew 4 t31 rfl rfl rfl rfl rfl rfl rfl ?_
    refine Wl.nil ?_
    refine Wx.then_n ?_
    refine Wc.seq ?_
    refine Wc.seq ?_
    refine Wc.region ?_
    refine Wl.loadb 2 0 t186 rfl rfl rfl rfl ?_
    refine Wl.move rfl rfl ?_
    refine Wl.idx Tryz.underlying186 t4 rfl rfl rfl (by omega) ?_
    refine Wl.loadh (j := 0) (cs := eBool ((doneOf ns out)[q]'(by omega))) t4 (fun w hw => hw.own_cells 1 rfl rfl (fun _ => rfl) (fun _ => rfl) (by decide) q (by omega)) rfl rfl (Addr.add_zero' _).symm rfl ?_
    refine Wl.nil ?_
    refine Wx.then_n ?_
    refine Wc.cond rfl (fun h26 => ?_) (fun h26 => ?_)
    ·
      refine Wc.exit ?_
      refine Wx.then_e ?_
      refine Wx.block_e ?_
      refine Wx.then_n ?_
      refine Wc.region ?_
      refine Wl.add rfl rfl rfl (by omega) ?_
      refine Wl.move rfl rfl ?_
      refine Wl.nil ?_
      exact Wx.againS (q + 1) (by omega) ⟨rfl, rfl, rfl, rfl, rfl, rfl, rfl, trivial⟩ ⟨hq, hnr1 (by rw [doneOf_get] at h26; rw [ready_iff hq, h26]; rfl)⟩ (fun w hw => (hw.take 4).imp fun w h => h.1)
    ·
      refine Wc.skip ?_
      refine Wx.then_n ?_
      refine Wc.seq ?_
      refine Wc.seq ?_
      refine Wc.region ?_
      refine Wl.fld ⟨_, 1, none⟩ fl31_1 rfl rfl rfl ?_
      refine Wl.loadb 4 1 t24 rfl rfl rfl rfl ?_
      refine Wl.len Tryz.underlying24 rfl rfl ?_
      refine Wl.move rfl rfl ?_
      refine Wl.nil ?_
      refine Wx.then_n ?_
      refine Wc.block ?_
      refine Wc.loopS (G := Nat) (fun g => match g with | kk => [(1, .pointer (some ⟨b1, 0, none⟩)), (3, ov), (4, .pointer (some ⟨b4, 0, none⟩)), (5, .func (.func 139) #[] #[.pointer (some ⟨b4, 0, none⟩)]), (6, .int .i64 q), (17, .int .i64 ns.length), (16, .slice (some jd) ns.length jc), (18, .int .i64 q), (28, .slice A2 ns[q].ins.length c2), (29, .int .i64 ns[q].ins.length), (30, .int .i64 kk)]) (fun g => match g with | kk => kk ≤ ns[q].ins.length ∧ (ns[q].ins.take kk).all (fun k => decide (k ∈ out)) = true) (fun g => match g with | kk => [.box b1 [.slice (some jd) ns.length jc] 34, rowOf eBool (.slice (some ⟨g3, 0, none⟩) (doneOf ns out).length c3) 4 1 (doneOf ns out), .box b4 [.slice (some ⟨g3, 0, none⟩) (doneOf ns out).length c3] 186, rowOf eInt ov 3 1 out, .box b7 (nodeCells ns[q] ((A2, c2), (A4, c4))) 31]) (fun g => match g with | kk => fun w => kNode.Row w (some jd) ns ∧ Cells w (jd.add (q * 10)) (nodeCells ns[q] ((A2, c2), (A4, c4))) ∧ kInt.Row w A2 ns[q].ins ∧ kExpr.Row w A4 ns[q].e.l) (fun g => match g with | kk => ns[q].ins.length - kk) 0 ⟨rfl, rfl, rfl, rfl, rfl, rfl, rfl, rfl, rfl, rfl, rfl, trivial⟩ ⟨Nat.zero_le _, by simp⟩ (fun w hw => hw) ?_
      rintro kk ⟨hkk, hok⟩
      dsimp only
      refine Wc.seq ?_
      refine Wc.region ?_
      refine Wl.lss rfl rfl rfl ?_
      refine Wl.nil ?_
      refine Wx.then_n ?_
      refine Wc.seq ?_
      refine Wc.condp rfl (fun h31 => ?_) (fun h31 => ?_)
      ·
        have hk : kk < ns[q].ins.length := by omega
        refine Wc.pure (p := ∃ ad, A2 = some ad) (fun w hw => hw.addr (fun w h => h.2.2.1) (by omega)) ?_
        rintro ⟨ad2, rfl⟩
        have hall := all_take (fun k => decide (k ∈ out)) ns[q].ins kk hk
        refine Wc.skip ?_
        refine Wx.then_n ?_
        refine Wc.seq ?_
        refine Wc.block ?_
        refine Wc.seq ?_
        refine Wc.region ?_
        refine Wl.idx Tryz.underlying24 t3 rfl rfl rfl hk ?_
        refine Wl.loadr (j := 0) (cs := eInt ns[q].ins[kk]) t3 (fun w h => h.2.2.1.cells kk hk) rfl rfl (Addr.add_zero' _).symm rfl ?_
        refine Wl.assign rfl rfl ?_
        refine Wl.nil ?_
        refine Wx.then_n ?_
        refine Wc.seq ?_
        refine Wc.region ?_
        refine Wl.move rfl rfl ?_
        refine Wl.move rfl rfl ?_
        refine Wl.callF [.int .i64 ns[q].ins[kk]] (cap := [.pointer (some ⟨b4, 0, none⟩)]) Tryz.func139 rfl rfl rfl rfl rfl (fun w hw => may_at hw _ 1 2 rfl rfl rfl _ (mayOf_done hin _)) ?_
        refine Wl.not rfl rfl ?_
        refine Wl.nil ?_
        refine Wx.then_n ?_
        refine Wc.cond rfl (fun h37 => ?_) (fun h37 => ?_)
        ·
          refine Wc.exit ?_
          refine Wx.block_o rfl ?_
          refine Wx.then_e ?_
          refine Wx.then_e ?_
          refine Wx.block_o rfl ?_
          refine Wx.then_e ?_
          refine Wx.block_e ?_
          refine Wx.then_n ?_
          refine Wc.region ?_
          refine Wl.add rfl rfl rfl (by omega) ?_
          refine Wl.move rfl rfl ?_
          refine Wl.nil ?_
          exact Wx.againS (q + 1) (by omega) ⟨rfl, rfl, rfl, rfl, rfl, rfl, rfl, trivial⟩ ⟨hq, hnr1 (by rw [ready_iff hq]; simp only [Bool.and_eq_false_iff]; right; rw [List.all_eq_false]; exact ⟨_, List.getElem_mem hk, by simpa using h37⟩)⟩ (fun w hw => (hw.take 4).imp fun w h => h.1)
        ·
          refine Wc.skip ?_
          refine Wx.block_n ?_
          refine Wx.then_n ?_
          refine Wc.region ?_
          refine Wl.add rfl rfl rfl (by omega) ?_
          refine Wl.move rfl rfl ?_
          refine Wl.nil ?_
          exact Wx.againS (kk + 1) (by omega) ⟨rfl, rfl, rfl, rfl, rfl, rfl, rfl, rfl, rfl, rfl, rfl, trivial⟩ ⟨hk, by rw [hall, hok]; simpa using h37⟩ (fun w hw => hw)
      ·
        obtain rfl : kk = ns[q].ins.length := by omega
        rw [List.take_length] at hok
        have hrq : ready ns out q = true := by rw [ready_iff hq, hok, Bool.and_true]; simpa [doneOf_get] using h26
        have hf : (List.range ns.length).find? (ready ns out) = some q := by rw [List.find?_eq_some_iff_getElem]; exact ⟨hrq, q, by simpa using hq, by simp, fun j hj => by simpa using hnr j (by simpa using hj)⟩
        have hrq' := ready_lt hrq
        have hfr := free_lt hrq'.1 hrq'.2
        refine Wc.exit ?_
        refine Wx.then_e ?_
        refine Wx.then_e ?_
        refine Wx.block_e ?_
        refine Wx.then_n ?_
        refine Wc.seq ?_
        refine Wc.region ?_
        refine Wl.loadb 2 0 t186 rfl rfl rfl rfl ?_
        refine Wl.move rfl rfl ?_
        refine Wl.idx Tryz.underlying186 t4 rfl rfl rfl (by omega) ?_
        refine Wl.storee 1 (q) 0 (true) t4 rfl rfl rfl rfl (fun _ => rfl) rfl rfl rfl (by omega) (addr_at _ _) (Nat.le_of_ble_eq_true rfl) rfl ?_
        refine Wl.nil ?_
        refine Wx.then_n ?_
        refine Wc.seq ?_
        refine Wc.region ?_
        refine Wl.move rfl rfl ?_
        refine Wl.move rfl rfl ?_
        refine Wl.slice1 Tryz.underlying24 t3 rfl rfl rfl rfl rfl rfl (fun b44 => ?_)
        refine Wl.app1e 3 5 ((q : Int)) Tryz.underlying24 t3 rfl rfl rfl rfl rfl rfl rfl rfl rfl rfl rfl (by omega) (fun v45 => ?_)
        refine Wl.assign rfl rfl ?_
        refine Wl.nil ?_
        refine Wx.then_n ?_
        refine Wc.exit ?_
        refine Wx.block_o rfl ?_
        refine Wx.then_e ?_
        refine Wx.then_e ?_
        refine Wx.block_o rfl ?_
        refine Wx.then_e ?_
        refine Wx.scope_o ?_
        refine Wx.block_e ?_
        exact Wx.againS ⟨out ++ [(q : Int)], _, _⟩ hfr ⟨rfl, rfl, rfl, rfl, trivial⟩ ⟨by rw [ho, order_step hf], fun k hk => by (rcases List.mem_append.1 hk with hk | hk; exact hin k hk; simp at hk; omega), by (try dsimp only); rw [List.length_append, List.length_singleton]; omega⟩ (fun w hw => by have := (hw.take 4).imp (fun w h => h.1); simp only [List.take, List.set, doneOf_set] at this; exact this)
  ·
    obtain rfl : q = ns.length := by omega
    have hno : (List.range ns.length).find? (ready ns out) = none := by rw [List.find?_eq_none]; intro j hj; simpa using hnr j hj
    refine Wc.exit ?_
    refine Wx.then_e ?_
    refine Wx.then_e ?_
    refine Wx.block_e ?_
    refine Wx.then_n ?_
    refine Wc.seq ?_
    refine Wc.region ?_
    refine Wl.move rfl rfl ?_
    refine Wl.assign rfl rfl ?_
    refine Wl.nil ?_
    refine Wx.then_n ?_
    refine Wc.ret ?_
    refine Wx.scope_r ?_
    refine Wx.block_r ?_
    refine Wx.then_r ?_
    refine Wx.block_r ?_
    refine Wx.scope_r ?_
    rw [show order ns = out by rw [order, ho, order_stop hno]]
    exact Wx.retO rfl rfl (fun w hw => hw.drop 0 |>.drop 0 |>.drop 0)

end Go.Proofs.YtkffjbijamfnoaaGreat
