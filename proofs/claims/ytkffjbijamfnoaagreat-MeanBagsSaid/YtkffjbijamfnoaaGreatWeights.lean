/-
  How many records may come of one.
-/
import Derived.Test.YtkffjbijamfnoaaGreatChecks
set_option linter.unusedVariables false
set_option linter.unusedSimpArgs false
namespace Go.Proofs.YtkffjbijamfnoaaGreat
open Go.RowKit

theorem orderGo_mem {ns : List Node} : ∀ (N : Nat) (out : List Int), free ns out ≤ N → (∀ k ∈ out, 0 ≤ k ∧ k < ns.length) → out.length + free ns out ≤ ns.length → (∀ k ∈ orderGo ns out, 0 ≤ k ∧ k < ns.length) ∧ (orderGo ns out).length ≤ ns.length := by
  intro N
  induction N with
  | zero =>
    intro out hN h1 h2
    cases hf : (List.range ns.length).find? (ready ns out) with
    | none => rw [order_stop hf]; exact ⟨h1, by omega⟩
    | some i => have := free_lt (ready_lt (List.find?_some hf)).1 (ready_lt (List.find?_some hf)).2; omega
  | succ N ih =>
    intro out hN h1 h2
    cases hf : (List.range ns.length).find? (ready ns out) with
    | none => rw [order_stop hf]; exact ⟨h1, by omega⟩
    | some i =>
      have hr := ready_lt (List.find?_some hf)
      have := free_lt hr.1 hr.2
      rw [order_step hf]
      refine ih _ (by omega) (fun k hk => ?_) (by rw [List.length_append, List.length_singleton]; omega)
      rcases List.mem_append.1 hk with hk | hk
      · exact h1 k hk
      · simp at hk; omega
theorem order_mem (ns : List Node) : (∀ k ∈ order ns, 0 ≤ k ∧ k < ns.length) ∧ (order ns).length ≤ ns.length :=
  orderGo_mem _ [] (Nat.le_refl _) (by simp) (by have hcp := List.countP_le_length (l := List.range ns.length) (p := fun i : Nat => !decide ((i : Int) ∈ ([] : List Int))); rw [List.length_range] at hcp; unfold free; first | exact hcp | (simp only [List.length_nil, Nat.zero_add]; exact hcp))
def wAt (wl : List Int) (k : Int) : Int := wl.getD k.toNat 0
def sumIns (wl ins : List Int) : Int := (ins.map (wAt wl)).sum
def times (x : Node) : Int := (x.win.size - 1) / x.win.slide + 1
def wOf (wl : List Int) (x : Node) : Int := if x.kind = 1 then 1 else if x.win.kind = 2 then min 65 (min 65 (times x) * min 65 (sumIns wl x.ins)) else min 65 (sumIns wl x.ins)
def wgo (ns : List Node) : List Int → List Int → List Int
  | [], wl => wl
  | i :: is, wl => wgo ns is (wl.set i.toNat (((ns[i.toNat]?).map (wOf wl)).getD 0))
/-- How many records may come of one, node by node; 65: more than 64. -/
def weights (ns : List Node) : List Int := wgo ns (order ns) (List.replicate ns.length 0)
theorem wgo_drop (ns : List Node) (l wl : List Int) (k : Nat) (hk : k < l.length) (q : Nat) (hq : q < ns.length) (e : l[k] = q) : wgo ns (l.drop k) wl = wgo ns (l.drop (k + 1)) (wl.set q (wOf wl ns[q])) := by
  rw [List.drop_eq_getElem_cons hk, wgo, e, Int.toNat_natCast, List.getElem?_eq_getElem hq]; rfl
theorem sumIns_take (wl ins : List Int) (k : Nat) (hk : k < ins.length) : sumIns wl (ins.take (k + 1)) = sumIns wl (ins.take k) + wAt wl ins[k] := by
  unfold sumIns
  rw [List.take_succ_eq_append_getElem hk, List.map_append, List.sum_append]; simp
theorem wAt_eq (wl : List Int) (k : Nat) (hk : k < wl.length) : wAt wl k = wl[k] := by
  unfold wAt; rw [Int.toNat_natCast, List.getD_eq_getElem?_getD, List.getElem?_eq_getElem hk]; rfl
theorem wOf_bd {wl : List Int} {x : Node} (h0 : 0 ≤ sumIns wl x.ins) (h1 : x.win.kind = 2 → 1 ≤ times x) : 0 ≤ wOf wl x ∧ wOf wl x ≤ 65 := by
  unfold wOf
  split
  · omega
  · split
    · rename_i h
      have h1 := h1 h
      have : 0 ≤ min 65 (times x) * min 65 (sumIns wl x.ins) := Int.mul_nonneg (by omega) (by omega)
      omega
    · omega
theorem set_bd {wl : List Int} {q : Nat} {v : Int} (h : ∀ x ∈ wl, 0 ≤ x ∧ x ≤ 65) (hv : 0 ≤ v ∧ v ≤ 65) : ∀ x ∈ wl.set q v, 0 ≤ x ∧ x ≤ 65 := fun x hx => by
  rcases List.mem_or_eq_of_mem_set hx with hx | rfl
  · exact h x hx
  · exact hv
/-- What a right node says. -/
theorem node_ok {ns : List Node} {x : Node} (h : nodeErr ns x = 0) : insOk ns x = true ∧ (x.win.kind = 2 → x.kind = 7 ∧ 1 ≤ x.win.size ∧ x.win.size ≤ 68719476736 ∧ 1 ≤ x.win.slide ∧ x.win.slide ≤ 68719476736) := by
  have key : ∀ (i b3 b7 b9 b11 b13 : Bool), (if b3 then (81 : Int) else if !i then 82 else if b7 then 84 else if b9 then 85 else if b11 then 86 else if b13 then 87 else 0) = 0 → i = true ∧ b13 = false := by
    intro i b3 b7 b9 b11 b13
    cases i <;> cases b3 <;> cases b7 <;> cases b9 <;> cases b11 <;> cases b13 <;> simp
  rw [nodeErr_eq ns x _ _ _ _ _ rfl rfl rfl rfl rfl] at h
  obtain ⟨h1, h3⟩ := key _ _ _ _ _ _ h
  refine ⟨h1, fun hk => ?_⟩
  by_cases h4 : x.kind = 7
  · rw [if_pos h4] at h3
    simp only [winOk, hk, Bool.not_eq_eq_eq_not, Bool.not_false] at h3
    simp [spanOk] at h3
    exact ⟨h4, by omega⟩
  · rw [if_neg h4] at h3
    simp only [ne_eq, decide_eq_false_iff_not, Classical.not_not] at h3
    rw [h3] at hk
    cases hk
theorem ins_ok {ns : List Node} {x : Node} (h : insOk ns x = true) : x.ins.length ≤ 4 ∧ ∀ k ∈ x.ins, 0 ≤ k ∧ k < ns.length := by
  unfold insOk at h
  simp only [Bool.and_eq_true, decide_eq_true_eq, Bool.not_eq_true'] at h
  refine ⟨?_, fun k hk => ?_⟩
  · have := h.1.2
    unfold mostIn at this
    (repeat' split at this) <;> omega
  · have := List.any_eq_false.1 h.2 k hk
    unfold badIn at this
    simp at this
    omega
theorem times_pos {x : Node} (h : 1 ≤ x.win.size ∧ x.win.size ≤ 68719476736 ∧ 1 ≤ x.win.slide ∧ x.win.slide ≤ 68719476736) : 1 ≤ times x ∧ times x ≤ 68719476736 ∧ (x.win.size + x.win.slide - 1) / x.win.slide = times x := by
  unfold times
  have h1 : 0 ≤ (x.win.size - 1) / x.win.slide := Int.ediv_nonneg (by omega) (by omega)
  have h2 : (x.win.size - 1) / x.win.slide ≤ x.win.size - 1 := Int.ediv_le_self _ (by omega)
  refine ⟨by omega, by omega, ?_⟩
  rw [show x.win.size + x.win.slide - 1 = (x.win.size - 1) + 1 * x.win.slide by omega, Int.add_mul_ediv_right _ _ (by omega)]
theorem min_mul {t s : Int} (ht : 1 ≤ t) (hs : 0 ≤ s) : min (s * t) 65 = min 65 (min 65 t * min 65 s) := by
  have h1 : 65 ≤ s → 65 ≤ s * t := fun h => Int.le_trans h (by have := Int.mul_le_mul_of_nonneg_left ht hs; omega)
  have h2 : 65 ≤ t → 1 ≤ s → 65 ≤ s * t := fun h h' => Int.le_trans h (by have := Int.mul_le_mul_of_nonneg_right h' (show (0 : Int) ≤ t by omega); omega)
  by_cases a : 65 ≤ s
  · have h3 : min 65 s = 65 := by omega
    rw [h3]
    have := h1 a
    omega
  · have h3 : min 65 s = s := by omega
    rw [h3]
    by_cases b : 65 ≤ t
    · have h4 : min 65 t = 65 := by omega
      rw [h4]
      by_cases c : 1 ≤ s
      · have := h2 b c
        omega
      · obtain rfl : s = 0 := by omega
        simp only [Int.zero_mul, Int.mul_zero]
        omega
    · have h4 : min 65 t = t := by omega
      rw [h4, Int.mul_comm]
      omega

theorem weights_calls (m : Nat → Prop) (J : Option Addr) (jc : Nat) (ns : List Node) (w : World) (hr : Ro m w (fun w => kNode.Row w J ns)) (hjc : ns.length ≤ jc) (hn : ns.length ≤ 12) (hz : ∀ x ∈ ns, nodeErr ns x = 0) :
    Calls Tryz.prog 161 #[.agg #[.slice J ns.length jc]] w (PostO m w eInt 3 1 (weights ns)) := by
  obtain ⟨hom, hol⟩ := order_mem ns
  refine calls_of_Wc (args := [.agg #[.slice J ns.length jc]]) 75 Tryz.func161 rfl rfl (by simp) ?_
  refine Wc.start hr ?_
  refine Wc.seq ?_
  refine Wc.region ?_
  refine Wl.box rfl rfl rfl (fun b1 => ?_)
  refine Wl.assign rfl rfl ?_
  refine Wl.nil ?_
  refine Wx.then_n ?_
  refine Wc.seq ?_
  refine Wc.region ?_
  refine Wl.fld ⟨_, 0, none⟩ fl34_0 rfl rfl rfl ?_
  refine Wl.loadb 0 0 t32 rfl rfl rfl rfl ?_
  refine Wl.len Tryz.underlying32 rfl rfl ?_
  refine Wl.mk (enc := eInt) (0 : Int) Tryz.underlying24 t3 rfl rfl rfl rfl rfl (by omega) (by omega) (fun v13 => ?_)
  refine Wl.assign rfl rfl ?_
  refine Wl.nil ?_
  refine Wx.then_n ?_
  refine Wc.seq ?_
  refine Wc.seq ?_
  refine Wc.region ?_
  refine Wl.loadbw 0 t34 rfl rfl rfl rfl ?_
  refine Wl.callO [_] Tryz.func91 rfl rfl rfl rfl (fun w hw => order_calls _ J jc ns w (hw.read fun w h => h) hjc (by omega)) (fun v15 => ?_)
  refine Wl.form 2 rfl (fun A15 c15 e15 hc15 hA15 => ?_)
  subst e15
  refine Wl.len Tryz.underlying24 rfl rfl ?_
  refine Wl.move rfl rfl ?_
  refine Wl.nil ?_
  refine Wx.then_n ?_
  refine Wc.block ?_
  refine Wc.loopS (G := Nat × List Int × Value) (fun g => match g with | ⟨k, wl, wv⟩ => [(1, .pointer (some ⟨b1, 0, none⟩)), (3, wv), (15, .slice A15 (order ns).length c15), (16, .int .i64 (order ns).length), (17, .int .i64 k)]) (fun g => match g with | ⟨k, wl, wv⟩ => k ≤ (order ns).length ∧ wl.length = ns.length ∧ (∀ x ∈ wl, 0 ≤ x ∧ x ≤ 65) ∧ weights ns = wgo ns ((order ns).drop k) wl) (fun g => match g with | ⟨k, wl, wv⟩ => [.box b1 [.slice J ns.length jc] 34, rowOf eInt wv 3 1 wl, rowOf eInt (.slice A15 (order ns).length c15) 3 1 (order ns)]) (fun g => match g with | ⟨k, wl, wv⟩ => fun w => kNode.Row w J ns) (fun g => match g with | ⟨k, wl, wv⟩ => (order ns).length - k) ⟨0, List.replicate ns.length 0, v13⟩ ⟨rfl, rfl, rfl, rfl, rfl, trivial⟩ ⟨Nat.zero_le _, by simp, by simp, by rw [List.drop_zero]; rfl⟩ (fun w hw => hw) ?_
  rintro ⟨k, wl, wv⟩ ⟨hk0, hwl, hwb, hw0⟩
  dsimp only
  refine Wc.seq ?_
  refine Wc.region ?_
  refine Wl.lss rfl rfl rfl ?_
  refine Wl.nil ?_
  refine Wx.then_n ?_
  refine Wc.seq ?_
  refine Wc.condp rfl (fun h18 => ?_) (fun h18 => ?_)
  ·
    have hk : k < (order ns).length := by omega
    obtain ⟨g15, rfl⟩ := hA15 (by omega)
    refine Wc.form 1 rfl (fun A3 c3 e3 hc3 hA3 => ?_)
    subst e3
    refine Wc.skip ?_
    refine Wx.then_n ?_
    refine Wc.seq ?_
    refine Wc.block ?_
    refine Wc.seq ?_
    refine Wc.region ?_
    refine Wl.idx Tryz.underlying24 t3 rfl rfl rfl (by omega) ?_
    refine Wl.loadh (j := 0) (cs := eInt ((order ns)[k])) t3 (fun w hw => hw.own_cells 2 rfl rfl (fun _ => rfl) (fun _ => rfl) (by decide) k (by omega)) rfl rfl (Addr.add_zero' _).symm rfl ?_
    refine Wl.assign rfl rfl ?_
    refine Wl.nil ?_
    refine Wx.then_n ?_
    refine Wc.seq ?_
    generalize hgi : (order ns)[k] = gi
    obtain ⟨hg0, hg1⟩ := hom gi (hgi ▸ List.getElem_mem hk)
    obtain ⟨q, rfl⟩ : ∃ q : Nat, gi = q := ⟨gi.toNat, by omega⟩
    have hq : q < ns.length := by omega
    obtain ⟨g3, rfl⟩ := hA3 (by omega)
    refine Wc.pure (p := ∃ jd, J = some jd) (fun w hw => hw.addr (fun w h => h) (by omega)) ?_
    rintro ⟨jd, rfl⟩
    refine Wc.exS (fun w hw => hw.node_get (fun w h => h) q hq) ?_
    rintro ⟨⟨A2, c2⟩, A4, c4⟩ hcc
    dsimp only at hcc ⊢
    obtain ⟨hio, hwo⟩ := node_ok (hz _ (List.getElem_mem hq))
    obtain ⟨hi4, hii⟩ := ins_ok hio
    refine Wc.region ?_
    refine Wl.fld ⟨_, 0, none⟩ fl34_0 rfl rfl rfl ?_
    refine Wl.loadb 0 0 t32 rfl rfl rfl rfl ?_
    refine Wl.move rfl rfl ?_
    refine Wl.idx Tryz.underlying32 t31 rfl rfl rfl hq ?_
    refine Wl.loadrw (cs := (nodeCells ns[q] ((A2, c2), (A4, c4)))) t31 (fun w h => h.2.1) rfl rfl rfl ?_
    refine Wl.alloc t31 rfl rfl (fun b6 => ?_)
    refine Wl.storew 3 t31 rfl rfl rfl rfl rfl rfl rfl ?_
    refine Wl.nil ?_
    refine Wx.then_n ?_
    refine Wc.seq ?_
    refine Wc.region ?_
    refine Wl.assign rfl rfl ?_
    refine Wl.nil ?_
    refine Wx.then_n ?_
    refine Wc.seq ?_
    refine Wc.seq ?_
    refine Wc.region ?_
    refine Wl.fld ⟨_, 1, none⟩ fl31_1 rfl rfl rfl ?_
    refine Wl.loadb 3 1 t24 rfl rfl rfl rfl ?_
    refine Wl.len Tryz.underlying24 rfl rfl ?_
    refine Wl.move rfl rfl ?_
    refine Wl.nil ?_
    refine Wx.then_n ?_
    refine Wc.block ?_
    refine Wc.loopS (G := Nat × Int) (fun g => match g with | ⟨kk, s⟩ => [(1, .pointer (some ⟨b1, 0, none⟩)), (3, .slice (some ⟨g3, 0, none⟩) wl.length c3), (5, .int .i64 q), (6, .pointer (some ⟨b6, 0, none⟩)), (7, .int .i64 s), (15, .slice (some ⟨g15, 0, none⟩) (order ns).length c15), (16, .int .i64 (order ns).length), (17, .int .i64 k), (27, .slice A2 ns[q].ins.length c2), (28, .int .i64 ns[q].ins.length), (29, .int .i64 kk)]) (fun g => match g with | ⟨kk, s⟩ => kk ≤ ns[q].ins.length ∧ s = sumIns wl (ns[q].ins.take kk) ∧ 0 ≤ s ∧ s ≤ 65 * kk) (fun g => match g with | ⟨kk, s⟩ => [.box b1 [.slice (some jd) ns.length jc] 34, rowOf eInt (.slice (some ⟨g3, 0, none⟩) wl.length c3) 3 1 wl, rowOf eInt (.slice (some ⟨g15, 0, none⟩) (order ns).length c15) 3 1 (order ns), .box b6 (nodeCells ns[q] ((A2, c2), (A4, c4))) 31]) (fun g => match g with | ⟨kk, s⟩ => fun w => kNode.Row w (some jd) ns ∧ Cells w (jd.add (q * 10)) (nodeCells ns[q] ((A2, c2), (A4, c4))) ∧ kInt.Row w A2 ns[q].ins ∧ kExpr.Row w A4 ns[q].e.l) (fun g => match g with | ⟨kk, s⟩ => ns[q].ins.length - kk) ⟨0, 0⟩ ⟨rfl, rfl, rfl, rfl, rfl, rfl, rfl, rfl, rfl, rfl, rfl, trivial⟩ ⟨Nat.zero_le _, by simp [sumIns], by omega, by omega⟩ (fun w hw => hw) ?_
    rintro ⟨kk, s⟩ ⟨hkk, hs, hs0, hs1⟩
    dsimp only
    refine Wc.seq ?_
    refine Wc.region ?_
    refine Wl.lss rfl rfl rfl ?_
    refine Wl.nil ?_
    refine Wx.then_n ?_
    refine Wc.seq ?_
    refine Wc.condp rfl (fun h30 => ?_) (fun h30 => ?_)
    ·
      have hkk1 : kk < ns[q].ins.length := by omega
      refine Wc.pure (p := ∃ ad, A2 = some ad) (fun w hw => hw.addr (fun w h => h.2.2.1) (by omega)) ?_
      rintro ⟨ad2, rfl⟩
      have hst := sumIns_take wl ns[q].ins kk hkk1
      have hir := hii _ (List.getElem_mem hkk1)
      refine Wc.skip ?_
      refine Wx.then_n ?_
      refine Wc.seq ?_
      refine Wc.block ?_
      refine Wc.seq ?_
      refine Wc.region ?_
      refine Wl.idx Tryz.underlying24 t3 rfl rfl rfl hkk1 ?_
      refine Wl.loadr (j := 0) (cs := eInt ns[q].ins[kk]) t3 (fun w h => h.2.2.1.cells kk hkk1) rfl rfl (Addr.add_zero' _).symm rfl ?_
      refine Wl.assign rfl rfl ?_
      refine Wl.nil ?_
      refine Wx.then_n ?_
      generalize hgk : ns[q].ins[kk] = gk at hst hir ⊢
      obtain ⟨r, rfl⟩ : ∃ r : Nat, gk = r := ⟨gk.toNat, by omega⟩
      have hrl : r < wl.length := by omega
      rw [wAt_eq wl r hrl] at hst
      have hwr := hwb _ (List.getElem_mem hrl)
      refine Wc.region ?_
      refine Wl.move rfl rfl ?_
      refine Wl.move rfl rfl ?_
      refine Wl.move rfl rfl ?_
      refine Wl.idx Tryz.underlying24 t3 rfl rfl rfl (by omega) ?_
      refine Wl.loadh (j := 0) (cs := eInt (wl[r])) t3 (fun w hw => hw.own_cells 1 rfl rfl (fun _ => rfl) (fun _ => rfl) (by decide) r (by omega)) rfl rfl (Addr.add_zero' _).symm rfl ?_
      refine Wl.add rfl rfl rfl (by omega) ?_
      refine Wl.assign rfl rfl ?_
      refine Wl.nil ?_
      refine Wx.block_n ?_
      refine Wx.then_n ?_
      refine Wc.region ?_
      refine Wl.add rfl rfl rfl (by omega) ?_
      refine Wl.move rfl rfl ?_
      refine Wl.nil ?_
      exact Wx.againS ⟨kk + 1, s + wl[r]⟩ (by (try dsimp only); omega) ⟨rfl, rfl, rfl, rfl, rfl, rfl, rfl, rfl, rfl, rfl, rfl, trivial⟩ ⟨hkk1, by (try dsimp only); rw [hst, hs], by (try dsimp only); omega, by (try dsimp only); omega⟩ (fun w hw => hw)
    ·
      obtain rfl : kk = ns[q].ins.length := by omega
      rw [List.take_length] at hs
      refine Wc.exit ?_
      refine Wx.then_e ?_
      refine Wx.then_e ?_
      refine Wx.block_e ?_
      refine Wx.then_n ?_
      refine Wc.seq ?_
      refine Wc.block ?_
      refine Wc.seq ?_
      refine Wc.region ?_
      refine Wl.fld ⟨_, 0, none⟩ fl31_0 rfl rfl rfl ?_
      refine Wl.loadb 3 0 t3 rfl rfl rfl rfl ?_
      refine Wl.eql rfl rfl rfl ?_
      refine Wl.assign rfl rfl ?_
      refine Wl.nil ?_
      refine Wx.then_n ?_
      refine Wc.condp rfl (fun h40 => ?_) (fun h40 => ?_)
      ·
        refine Wc.region ?_
        refine Wl.assign rfl rfl ?_
        refine Wl.nil ?_
        refine Wx.block_n ?_
        refine Wx.then_n ?_
        refine Wc.region ?_
        refine Wl.move rfl rfl ?_
        refine Wl.move rfl rfl ?_
        refine Wl.move rfl rfl ?_
        refine Wl.mini rfl rfl rfl ?_
        refine Wl.idx Tryz.underlying24 t3 rfl rfl rfl (by omega) ?_
        refine Wl.storee 1 (q) 0 (_) t3 rfl rfl rfl rfl (fun _ => rfl) rfl rfl rfl (by omega) (addr_at _ _) (Nat.le_of_ble_eq_true rfl) rfl ?_
        refine Wl.nil ?_
        refine Wx.block_n ?_
        refine Wx.then_n ?_
        refine Wc.region ?_
        refine Wl.add rfl rfl rfl (by omega) ?_
        refine Wl.move rfl rfl ?_
        refine Wl.nil ?_
        have hbd := wOf_bd (x := ns[q]) (hs ▸ hs0) (fun h => (times_pos (hwo h).2).1)
        have hweq : (min 1 65 : Int) = wOf wl ns[q] := by (unfold wOf; rw [if_pos h40]; rfl)
        exact Wx.againS ⟨k + 1, wl.set q (wOf wl ns[q]), _⟩ (by (try dsimp only); omega) ⟨rfl, rfl, rfl, rfl, rfl, trivial⟩ ⟨hk, by (try dsimp only); rw [List.length_set]; exact hwl, by (try dsimp only); exact set_bd hwb hbd, by (try dsimp only); rw [hw0, wgo_drop ns (order ns) wl k hk q hq hgi]⟩ (fun w hw => by rw [← hweq]; exact (hw.take 3).imp fun w h => h.1)
      ·
        refine Wc.seq ?_
        refine Wc.region ?_
        refine Wl.fld ⟨_, 0, none⟩ fl31_0 rfl rfl rfl ?_
        refine Wl.loadb 3 0 t3 rfl rfl rfl rfl ?_
        refine Wl.eql rfl rfl rfl ?_
        refine Wl.move rfl rfl ?_
        refine Wl.splitp 48 rfl (fun h48 => ?_) (fun h48 => ?_)
        ·
          refine Wl.fld ⟨_, 7, none⟩ fl31_5 rfl rfl rfl ?_
          refine Wl.fld ⟨_, 7, none⟩ fl29_0 rfl rfl rfl ?_
          refine Wl.loadb 3 7 t3 rfl rfl rfl rfl ?_
          refine Wl.eql rfl rfl rfl ?_
          refine Wl.pick_t rfl rfl rfl ?_
          refine Wl.assign rfl rfl ?_
          refine Wl.nil ?_
          refine Wx.then_n ?_
          refine Wc.condp rfl (fun h44 => ?_) (fun h44 => ?_)
          ·
            refine Wc.region ?_
            refine Wl.move rfl rfl ?_
            refine Wl.fld ⟨_, 7, none⟩ fl31_5 rfl rfl rfl ?_
            refine Wl.fld ⟨_, 8, none⟩ fl29_1 rfl rfl rfl ?_
            refine Wl.loadb 3 8 t2 rfl rfl rfl rfl ?_
            refine Wl.fld ⟨_, 7, none⟩ fl31_5 rfl rfl rfl ?_
            refine Wl.fld ⟨_, 9, none⟩ fl29_2 rfl rfl rfl ?_
            refine Wl.loadb 3 9 t2 rfl rfl rfl rfl ?_
            refine Wl.add rfl rfl rfl (by omega) ?_
            refine Wl.sub rfl rfl rfl (by omega) ?_
            refine Wl.fld ⟨_, 7, none⟩ fl31_5 rfl rfl rfl ?_
            refine Wl.fld ⟨_, 9, none⟩ fl29_2 rfl rfl rfl ?_
            refine Wl.loadb 3 9 t2 rfl rfl rfl rfl ?_
            refine Wl.quo rfl rfl rfl (by have := hwo (by omega); omega) ?_
            refine Wl.mulw rfl rfl rfl ?_
            refine Wl.assign rfl rfl ?_
            refine Wl.nil ?_
            refine Wx.block_n ?_
            refine Wx.then_n ?_
            refine Wc.region ?_
            refine Wl.move rfl rfl ?_
            refine Wl.move rfl rfl ?_
            refine Wl.move rfl rfl ?_
            refine Wl.mini rfl rfl rfl ?_
            refine Wl.idx Tryz.underlying24 t3 rfl rfl rfl (by omega) ?_
            refine Wl.storee 1 (q) 0 (_) t3 rfl rfl rfl rfl (fun _ => rfl) rfl rfl rfl (by omega) (addr_at _ _) (Nat.le_of_ble_eq_true rfl) rfl ?_
            refine Wl.nil ?_
            refine Wx.block_n ?_
            refine Wx.then_n ?_
            refine Wc.region ?_
            refine Wl.add rfl rfl rfl (by omega) ?_
            refine Wl.move rfl rfl ?_
            refine Wl.nil ?_
            have hbd := wOf_bd (x := ns[q]) (hs ▸ hs0) (fun h => (times_pos (hwo h).2).1)
            obtain ⟨ht1, ht2, ht3⟩ := times_pos (hwo h44).2
            have hweq : min (IntKind.i64.wrap (s * IntKind.i64.wrap ((ns[q].win.size + ns[q].win.slide - 1).tdiv ns[q].win.slide))) 65 = wOf wl ns[q] := by (unfold wOf; rw [if_neg h40, if_pos h44, Int.tdiv_eq_ediv_of_nonneg (by have := hwo h44; omega), ht3, i64_wrap_in (a := times ns[q]) (by omega), i64_wrap_in (by have h1 : s * times ns[q] ≤ 260 * times ns[q] := Int.mul_le_mul_of_nonneg_right (by omega) (by omega); have h2 : 0 ≤ s * times ns[q] := Int.mul_nonneg hs0 (by omega); omega), min_mul ht1 hs0, hs])
            exact Wx.againS ⟨k + 1, wl.set q (wOf wl ns[q]), _⟩ (by (try dsimp only); omega) ⟨rfl, rfl, rfl, rfl, rfl, trivial⟩ ⟨hk, by (try dsimp only); rw [List.length_set]; exact hwl, by (try dsimp only); exact set_bd hwb hbd, by (try dsimp only); rw [hw0, wgo_drop ns (order ns) wl k hk q hq hgi]⟩ (fun w hw => by rw [← hweq]; exact (hw.take 3).imp fun w h => h.1)
          ·
            refine Wc.skip ?_
            refine Wx.block_n ?_
            refine Wx.then_n ?_
            refine Wc.region ?_
            refine Wl.move rfl rfl ?_
            refine Wl.move rfl rfl ?_
            refine Wl.move rfl rfl ?_
            refine Wl.mini rfl rfl rfl ?_
            refine Wl.idx Tryz.underlying24 t3 rfl rfl rfl (by omega) ?_
            refine Wl.storee 1 (q) 0 (_) t3 rfl rfl rfl rfl (fun _ => rfl) rfl rfl rfl (by omega) (addr_at _ _) (Nat.le_of_ble_eq_true rfl) rfl ?_
            refine Wl.nil ?_
            refine Wx.block_n ?_
            refine Wx.then_n ?_
            refine Wc.region ?_
            refine Wl.add rfl rfl rfl (by omega) ?_
            refine Wl.move rfl rfl ?_
            refine Wl.nil ?_
            have hbd := wOf_bd (x := ns[q]) (hs ▸ hs0) (fun h => (times_pos (hwo h).2).1)
            have hweq : min s 65 = wOf wl ns[q] := by (unfold wOf; rw [if_neg h40, if_neg (by omega), hs]; omega)
            exact Wx.againS ⟨k + 1, wl.set q (wOf wl ns[q]), _⟩ (by (try dsimp only); omega) ⟨rfl, rfl, rfl, rfl, rfl, trivial⟩ ⟨hk, by (try dsimp only); rw [List.length_set]; exact hwl, by (try dsimp only); exact set_bd hwb hbd, by (try dsimp only); rw [hw0, wgo_drop ns (order ns) wl k hk q hq hgi]⟩ (fun w hw => by rw [← hweq]; exact (hw.take 3).imp fun w h => h.1)
        ·
          refine Wl.skip rfl rfl ?_
          refine Wl.skip rfl rfl ?_
          refine Wl.skip rfl rfl ?_
          refine Wl.skip rfl rfl ?_
          refine Wl.pick_f rfl rfl rfl ?_
          refine Wl.assign rfl rfl ?_
          refine Wl.nil ?_
          refine Wx.then_n ?_
          refine Wc.cond_f rfl ?_
          refine Wc.skip ?_
          refine Wx.block_n ?_
          refine Wx.then_n ?_
          refine Wc.region ?_
          refine Wl.move rfl rfl ?_
          refine Wl.move rfl rfl ?_
          refine Wl.move rfl rfl ?_
          refine Wl.mini rfl rfl rfl ?_
          refine Wl.idx Tryz.underlying24 t3 rfl rfl rfl (by omega) ?_
          refine Wl.storee 1 (q) 0 (_) t3 rfl rfl rfl rfl (fun _ => rfl) rfl rfl rfl (by omega) (addr_at _ _) (Nat.le_of_ble_eq_true rfl) rfl ?_
          refine Wl.nil ?_
          refine Wx.block_n ?_
          refine Wx.then_n ?_
          refine Wc.region ?_
          refine Wl.add rfl rfl rfl (by omega) ?_
          refine Wl.move rfl rfl ?_
          refine Wl.nil ?_
          have hbd := wOf_bd (x := ns[q]) (hs ▸ hs0) (fun h => (times_pos (hwo h).2).1)
          have hweq : min s 65 = wOf wl ns[q] := by (unfold wOf; rw [if_neg h40, if_neg (fun h => by have := hwo h; omega), hs]; omega)
          exact Wx.againS ⟨k + 1, wl.set q (wOf wl ns[q]), _⟩ (by (try dsimp only); omega) ⟨rfl, rfl, rfl, rfl, rfl, trivial⟩ ⟨hk, by (try dsimp only); rw [List.length_set]; exact hwl, by (try dsimp only); exact set_bd hwb hbd, by (try dsimp only); rw [hw0, wgo_drop ns (order ns) wl k hk q hq hgi]⟩ (fun w hw => by rw [← hweq]; exact (hw.take 3).imp fun w h => h.1)
  ·
    obtain rfl : k = (order ns).length := by omega
    rw [List.drop_length] at hw0
    refine Wc.exit ?_
    refine Wx.then_e ?_
    refine Wx.then_e ?_
    refine Wx.block_e ?_
    refine Wx.then_n ?_
    refine Wc.seq ?_
    refine Wc.region ?_
    refine Wl.move rfl rfl ?_
    refine Wl.assign rfl rfl ?_
    refine Wl.nil ?_
    refine Wx.then_n ?_
    refine Wc.ret ?_
    rw [hw0]
    exact Wx.retO rfl rfl (fun w hw => (hw.drop 2).drop 0)

theorem shape_ok {ns : List Node} (h : shapeErr ns = 0) : 1 ≤ ns.length ∧ ns.length ≤ 12 ∧ (∀ x ∈ ns, nodeErr ns x = 0) ∧ (order ns).length = ns.length := by
  unfold shapeErr at h
  split at h
  · omega
  rename_i hsz
  split at h
  · rename_i x hx
    have := List.find?_some hx
    simp [h] at this
  · rename_i hx
    split at h
    · omega
    · have := (order_mem ns).2
      refine ⟨by omega, by omega, fun x hx' => ?_, by omega⟩
      have := List.find?_eq_none.1 hx x hx'
      simpa using this
theorem min_sum {s a : Int} (h0 : 0 ≤ a) : min (min 65 s + a) 65 = min 65 (s + a) := by omega

theorem weights8_calls (m : Nat → Prop) (J : Option Addr) (jc : Nat) (ns : List Node) (w : World) (hr : Ro m w (fun w => kNode.Row w J ns)) (hjc : ns.length ≤ jc) (hs : ∀ x ∈ ns, x.e.count ≤ 1099511627776) :
    Calls Tryz.prog 103 #[.agg #[.slice J ns.length jc]] w (PostO m w eInt 3 1 (if shapeErr ns = 0 then weights ns else [])) := by
  refine calls_of_Wc (args := [.agg #[.slice J ns.length jc]]) 80 Tryz.func103 rfl rfl (by simp) ?_
  refine Wc.start hr ?_
  refine Wc.seq ?_
  refine Wc.region ?_
  refine Wl.box rfl rfl rfl (fun b1 => ?_)
  refine Wl.assign rfl rfl ?_
  refine Wl.nil ?_
  refine Wx.then_n ?_
  refine Wc.seq ?_
  refine Wc.seq ?_
  refine Wc.region ?_
  refine Wl.loadbw 0 t34 rfl rfl rfl rfl ?_
  refine Wl.callV [_] Tryz.func102 rfl rfl rfl rfl (fun w hw => light8_calls _ J jc ns w (hw.read fun w h => h) hjc hs) ?_
  refine Wl.neq rfl rfl rfl ?_
  refine Wl.nil ?_
  refine Wx.then_n ?_
  refine Wc.condp rfl (fun h12 => ?_) (fun h12 => ?_)
  ·
    refine Wc.seq ?_
    refine Wc.region ?_
    refine Wl.assign rfl rfl ?_
    refine Wl.nil ?_
    refine Wx.then_n ?_
    refine Wc.ret ?_
    refine Wx.then_r ?_
    rw [if_neg h12]
    exact Wx.retO rfl rfl (fun w hw => (hw.nil 3 1).drop 0)
  ·
    rw [if_pos (Decidable.not_not.1 h12)]
    obtain ⟨hn1, hn, hz, hol⟩ := shape_ok (Decidable.not_not.1 h12)
    have hom := (order_mem ns).1
    refine Wc.skip ?_
    refine Wx.then_n ?_
    refine Wc.seq ?_
    refine Wc.region ?_
    refine Wl.fld ⟨_, 0, none⟩ fl34_0 rfl rfl rfl ?_
    refine Wl.loadb 0 0 t32 rfl rfl rfl rfl ?_
    refine Wl.len Tryz.underlying32 rfl rfl ?_
    refine Wl.mk (enc := eInt) (0 : Int) Tryz.underlying24 t3 rfl rfl rfl rfl rfl (by omega) (by omega) (fun v16 => ?_)
    refine Wl.assign rfl rfl ?_
    refine Wl.nil ?_
    refine Wx.then_n ?_
    refine Wc.seq ?_
    refine Wc.region ?_
    refine Wl.loadbw 0 t34 rfl rfl rfl rfl ?_
    refine Wl.callO [_] Tryz.func84 rfl rfl rfl rfl (fun w hw => order8_calls _ J jc ns w (hw.read fun w h => h) hjc (by omega)) (fun v18 => ?_)
    refine Wl.form 2 rfl (fun A15 c15 e15 hc15 hA15 => ?_)
    subst e15
    refine Wl.assign rfl rfl ?_
    refine Wl.nil ?_
    refine Wx.then_n ?_
    refine Wc.seq ?_
    refine Wc.seq ?_
    refine Wc.region ?_
    refine Wl.assign rfl rfl ?_
    refine Wl.nil ?_
    refine Wx.then_n ?_
    refine Wc.block ?_
    refine Wc.loopS (G := Nat × List Int × Value) (fun g => match g with | ⟨k, wl, wv⟩ => [(1, .pointer (some ⟨b1, 0, none⟩)), (3, wv), (4, .slice A15 (order ns).length c15), (5, .int .i64 k)]) (fun g => match g with | ⟨k, wl, wv⟩ => k ≤ (order ns).length ∧ wl.length = ns.length ∧ (∀ x ∈ wl, 0 ≤ x ∧ x ≤ 65) ∧ weights ns = wgo ns ((order ns).drop k) wl) (fun g => match g with | ⟨k, wl, wv⟩ => [.box b1 [.slice J ns.length jc] 34, rowOf eInt wv 3 1 wl, rowOf eInt (.slice A15 (order ns).length c15) 3 1 (order ns)]) (fun g => match g with | ⟨k, wl, wv⟩ => fun w => kNode.Row w J ns) (fun g => match g with | ⟨k, wl, wv⟩ => (order ns).length - k) ⟨0, List.replicate ns.length 0, v16⟩ ⟨rfl, rfl, rfl, rfl, trivial⟩ ⟨Nat.zero_le _, by simp, by simp, by rw [List.drop_zero]; rfl⟩ (fun w hw => hw) ?_
    rintro ⟨k, wl, wv⟩ ⟨hk0, hwl, hwb, hw0⟩
    dsimp only
    refine Wc.seq ?_
    refine Wc.seq ?_
    refine Wc.region ?_
    refine Wl.move rfl rfl ?_
    refine Wl.move rfl rfl ?_
    refine Wl.len Tryz.underlying24 rfl rfl ?_
    refine Wl.lss rfl rfl rfl ?_
    refine Wl.nil ?_
    refine Wx.then_n ?_
    refine Wc.condp rfl (fun h22 => ?_) (fun h22 => ?_)
    ·
      have hk : k < (order ns).length := by omega
      obtain ⟨g15, rfl⟩ := hA15 (by omega)
      refine Wc.form 1 rfl (fun A3 c3 e3 hc3 hA3 => ?_)
      subst e3
      obtain ⟨hg0, hg1⟩ := hom _ (List.getElem_mem hk)
      obtain ⟨q, hgi⟩ : ∃ q : Nat, (order ns)[k] = q := ⟨((order ns)[k]).toNat, by omega⟩
      have hq : q < ns.length := by omega
      obtain ⟨g3, rfl⟩ := hA3 (by omega)
      refine Wc.pure (p := ∃ jd, J = some jd) (fun w hw => hw.addr (fun w h => h) (by omega)) ?_
      rintro ⟨jd, rfl⟩
      refine Wc.exS (fun w hw => hw.node_get (fun w h => h) q hq) ?_
      rintro ⟨⟨A2, c2⟩, A4, c4⟩ hcc
      dsimp only at hcc ⊢
      obtain ⟨hio, hwo⟩ := node_ok (hz _ (List.getElem_mem hq))
      obtain ⟨hi4, hii⟩ := ins_ok hio
      refine Wc.skip ?_
      refine Wx.then_n ?_
      refine Wc.seq ?_
      refine Wc.block ?_
      refine Wc.seq ?_
      refine Wany.startH mixed (fun w hw => hw.drew) ?_
      refine Wany.take (f := 2) [0, 1, 2, 3, 4, 5, 6, 7] (fun w hw => hw) (by kernel_rfl) ?_
      refine Wl.fld ⟨_, 0, none⟩ fl34_0 rfl rfl rfl ?_
      refine Wl.loadb 0 0 t32 rfl rfl rfl rfl ?_
      refine Wl.move rfl rfl ?_
      refine Wl.move rfl rfl ?_
      refine Wl.idx Tryz.underlying24 t3 rfl rfl rfl (by omega) ?_
      refine Wl.loadh (j := 0) (cs := eInt ((order ns)[k])) t3 (fun w hw => hw.own_cells 2 rfl rfl (fun _ => rfl) (fun _ => rfl) (by decide) k (by omega)) rfl rfl (Addr.add_zero' _).symm rfl ?_
      refine Wl.idx (j := q) Tryz.underlying32 t31 rfl (show _ = some (Value.int .i64 (q : Int)) from congrArg (fun z => some (Value.int .i64 z)) hgi) rfl hq ?_
      refine Wl.loadrw (cs := (nodeCells ns[q] ((A2, c2), (A4, c4)))) t31 (fun w h => h.2.1) rfl rfl rfl ?_
      refine Wl.nilh ?_
      refine Wany.eff (f := 1) 8 rfl (by kernel_rfl) ?_
      refine Wl.alloc t31 rfl rfl (fun b6 => ?_)
      refine Wl.nile (fun w hw => hw.take 3) ?_
      refine Wany.eff (f := 0) 9 rfl (by kernel_rfl) ?_
      refine Wl.storew 3 t31 rfl rfl rfl rfl rfl rfl rfl ?_
      refine Wl.nile (fun w hw => hw.take 3) ?_
      refine Wany.done (by kernel_rfl) ?_
      refine Wx.then_n ?_
      refine Wc.seq ?_
      refine Wc.region ?_
      refine Wl.assign rfl rfl ?_
      refine Wl.nil ?_
      refine Wx.then_n ?_
      refine Wc.seq ?_
      refine Wc.seq ?_
      refine Wc.region ?_
      refine Wl.assign rfl rfl ?_
      refine Wl.nil ?_
      refine Wx.then_n ?_
      refine Wc.block ?_
      refine Wc.loopS (G := Nat × Int) (fun g => match g with | ⟨kk, s⟩ => [(1, .pointer (some ⟨b1, 0, none⟩)), (3, .slice (some ⟨g3, 0, none⟩) wl.length c3), (4, .slice (some ⟨g15, 0, none⟩) (order ns).length c15), (5, .int .i64 k), (6, .pointer (some ⟨b6, 0, none⟩)), (7, .int .i64 s), (8, .int .i64 kk)]) (fun g => match g with | ⟨kk, s⟩ => kk ≤ ns[q].ins.length ∧ s = min 65 (sumIns wl (ns[q].ins.take kk)) ∧ 0 ≤ sumIns wl (ns[q].ins.take kk)) (fun g => match g with | ⟨kk, s⟩ => [.box b1 [.slice (some jd) ns.length jc] 34, rowOf eInt (.slice (some ⟨g3, 0, none⟩) wl.length c3) 3 1 wl, rowOf eInt (.slice (some ⟨g15, 0, none⟩) (order ns).length c15) 3 1 (order ns), .box b6 (nodeCells ns[q] ((A2, c2), (A4, c4))) 31]) (fun g => match g with | ⟨kk, s⟩ => fun w => kNode.Row w (some jd) ns ∧ Cells w (jd.add (q * 10)) (nodeCells ns[q] ((A2, c2), (A4, c4))) ∧ kInt.Row w A2 ns[q].ins ∧ kExpr.Row w A4 ns[q].e.l) (fun g => match g with | ⟨kk, s⟩ => ns[q].ins.length - kk) ⟨0, 0⟩ ⟨rfl, rfl, rfl, rfl, rfl, rfl, rfl, trivial⟩ ⟨Nat.zero_le _, by (simp only [List.take_zero, sumIns, List.map_nil, List.sum_nil]; omega), by simp [sumIns]⟩ (fun w hw => hw) ?_
      rintro ⟨kk, s⟩ ⟨hkk, hs1, hs0⟩
      dsimp only
      refine Wc.seq ?_
      refine Wc.seq ?_
      refine Wc.region ?_
      refine Wl.move rfl rfl ?_
      refine Wl.fld ⟨_, 1, none⟩ fl31_1 rfl rfl rfl ?_
      refine Wl.loadb 3 1 t24 rfl rfl rfl rfl ?_
      refine Wl.len Tryz.underlying24 rfl rfl ?_
      refine Wl.lss rfl rfl rfl ?_
      refine Wl.nil ?_
      refine Wx.then_n ?_
      refine Wc.condp rfl (fun h37 => ?_) (fun h37 => ?_)
      ·
        have hkk1 : kk < ns[q].ins.length := by omega
        refine Wc.pure (p := ∃ ad, A2 = some ad) (fun w hw => hw.addr (fun w h => h.2.2.1) (by omega)) ?_
        rintro ⟨ad2, rfl⟩
        have hst := sumIns_take wl ns[q].ins kk hkk1
        have hir := hii _ (List.getElem_mem hkk1)
        obtain ⟨r, hgk⟩ : ∃ r : Nat, ns[q].ins[kk] = r := ⟨ns[q].ins[kk].toNat, by omega⟩
        have hrl : r < wl.length := by omega
        rw [hgk, wAt_eq wl r hrl] at hst
        have hwr := hwb _ (List.getElem_mem hrl)
        refine Wc.skip ?_
        refine Wx.then_n ?_
        refine Wc.seq ?_
        refine Wc.block ?_
        refine Wc.region ?_
        refine Wl.move rfl rfl ?_
        refine Wl.move rfl rfl ?_
        refine Wl.fld ⟨_, 1, none⟩ fl31_1 rfl rfl rfl ?_
        refine Wl.loadb 3 1 t24 rfl rfl rfl rfl ?_
        refine Wl.move rfl rfl ?_
        refine Wl.idx Tryz.underlying24 t3 rfl rfl rfl hkk1 ?_
        refine Wl.loadr (j := 0) (cs := eInt ns[q].ins[kk]) t3 (fun w h => h.2.2.1.cells kk hkk1) rfl rfl (Addr.add_zero' _).symm rfl ?_
        refine Wl.idx (j := r) Tryz.underlying24 t3 rfl (show _ = some (Value.int .i64 (r : Int)) from congrArg (fun z => some (Value.int .i64 z)) hgk) rfl hrl ?_
        refine Wl.loadh (j := 0) (cs := eInt wl[r]) t3 (fun w hw => hw.own_cells 1 rfl rfl (fun _ => rfl) (fun _ => rfl) (by decide) r hrl) rfl rfl (Addr.add_zero' _).symm rfl ?_
        refine Wl.add rfl rfl rfl (by omega) ?_
        refine Wl.mini rfl rfl rfl ?_
        refine Wl.assign rfl rfl ?_
        refine Wl.nil ?_
        refine Wx.block_n ?_
        refine Wx.then_n ?_
        refine Wc.region ?_
        refine Wl.move rfl rfl ?_
        refine Wl.add rfl rfl rfl (by omega) ?_
        refine Wl.assign rfl rfl ?_
        refine Wl.nil ?_
        exact Wx.againS ⟨kk + 1, min (s + wl[r]) 65⟩ (by (try dsimp only); omega) ⟨rfl, rfl, rfl, rfl, rfl, rfl, rfl, trivial⟩ ⟨hkk1, by (try dsimp only); rw [hst, hs1, min_sum hwr.1], by (try dsimp only); omega⟩ (fun w hw => hw)
      ·
        obtain rfl : kk = ns[q].ins.length := by omega
        rw [List.take_length] at hs1 hs0
        have hbd := wOf_bd (x := ns[q]) hs0 (fun h => (times_pos (hwo h).2).1)
        refine Wc.exit ?_
        refine Wx.then_e ?_
        refine Wx.then_e ?_
        refine Wx.block_e ?_
        refine Wx.then_n ?_
        refine Wc.seq ?_
        refine Wc.seq ?_
        refine Wc.region ?_
        refine Wl.fld ⟨_, 0, none⟩ fl31_0 rfl rfl rfl ?_
        refine Wl.loadb 3 0 t3 rfl rfl rfl rfl ?_
        refine Wl.eql rfl rfl rfl ?_
        refine Wl.nil ?_
        refine Wx.then_n ?_
        refine Wc.condp rfl (fun h53 => ?_) (fun h53 => ?_)
        ·
          refine Wc.region ?_
          refine Wl.assign rfl rfl ?_
          refine Wl.nil ?_
          refine Wx.then_n ?_
          refine Wc.seq ?_
          refine Wc.seq ?_
          refine Wc.region ?_
          refine Wl.fld ⟨_, 7, none⟩ fl31_5 rfl rfl rfl ?_
          refine Wl.fld ⟨_, 7, none⟩ fl29_0 rfl rfl rfl ?_
          refine Wl.loadb 3 7 t3 rfl rfl rfl rfl ?_
          refine Wl.eql rfl rfl rfl ?_
          refine Wl.nil ?_
          refine Wx.then_n ?_
          refine Wc.condp rfl (fun h57 => ?_) (fun h57 => ?_)
          ·
            refine Wc.seq ?_
            refine Wc.region ?_
            refine Wl.fld ⟨_, 7, none⟩ fl31_5 rfl rfl rfl ?_
            refine Wl.fld ⟨_, 8, none⟩ fl29_1 rfl rfl rfl ?_
            refine Wl.loadb 3 8 t2 rfl rfl rfl rfl ?_
            refine Wl.sub rfl rfl rfl (by have := hwo h57; omega) ?_
            refine Wl.fld ⟨_, 7, none⟩ fl31_5 rfl rfl rfl ?_
            refine Wl.fld ⟨_, 9, none⟩ fl29_2 rfl rfl rfl ?_
            refine Wl.loadb 3 9 t2 rfl rfl rfl rfl ?_
            refine Wl.quo rfl rfl rfl (by have := hwo h57; omega) ?_
            refine Wl.add rfl rfl rfl (by have := times_pos (hwo h57).2; unfold times at this; rw [Int.tdiv_eq_ediv_of_nonneg (by have := hwo h57; omega), i64_wrap_in (by omega)]; omega) ?_
            refine Wl.assign rfl rfl ?_
            refine Wl.nil ?_
            refine Wx.then_n ?_
            refine Wc.region ?_
            refine Wl.move rfl rfl ?_
            refine Wl.mini rfl rfl rfl ?_
            refine Wl.move rfl rfl ?_
            refine Wl.mulw rfl rfl rfl ?_
            refine Wl.mini rfl rfl rfl ?_
            refine Wl.assign rfl rfl ?_
            refine Wl.nil ?_
            refine Wx.then_n ?_
            refine Wc.region ?_
            refine Wl.move rfl rfl ?_
            refine Wl.move rfl rfl ?_
            refine Wl.move rfl rfl ?_
            refine Wl.idx Tryz.underlying24 t3 rfl rfl rfl (by omega) ?_
            refine Wl.loadh (j := 0) (cs := eInt ((order ns)[k])) t3 (fun w hw => hw.own_cells 2 rfl rfl (fun _ => rfl) (fun _ => rfl) (by decide) k (by omega)) rfl rfl (Addr.add_zero' _).symm rfl ?_
            refine Wl.move rfl rfl ?_
            refine Wl.idx (j := q) Tryz.underlying24 t3 rfl (show _ = some (Value.int .i64 (q : Int)) from congrArg (fun z => some (Value.int .i64 z)) hgi) rfl (by omega) ?_
            refine Wl.storee 1 (q) 0 (_) t3 rfl rfl rfl rfl (fun _ => rfl) rfl rfl rfl (by omega) (addr_at _ _) (Nat.le_of_ble_eq_true rfl) rfl ?_
            refine Wl.nil ?_
            refine Wx.block_n ?_
            refine Wx.then_n ?_
            refine Wc.region ?_
            refine Wl.move rfl rfl ?_
            refine Wl.add rfl rfl rfl (by omega) ?_
            refine Wl.assign rfl rfl ?_
            refine Wl.nil ?_
            exact absurd h53 (by have := hwo h57; omega)
          ·
            refine Wc.skip ?_
            refine Wx.then_n ?_
            refine Wc.region ?_
            refine Wl.move rfl rfl ?_
            refine Wl.move rfl rfl ?_
            refine Wl.move rfl rfl ?_
            refine Wl.idx Tryz.underlying24 t3 rfl rfl rfl (by omega) ?_
            refine Wl.loadh (j := 0) (cs := eInt ((order ns)[k])) t3 (fun w hw => hw.own_cells 2 rfl rfl (fun _ => rfl) (fun _ => rfl) (by decide) k (by omega)) rfl rfl (Addr.add_zero' _).symm rfl ?_
            refine Wl.move rfl rfl ?_
            refine Wl.idx (j := q) Tryz.underlying24 t3 rfl (show _ = some (Value.int .i64 (q : Int)) from congrArg (fun z => some (Value.int .i64 z)) hgi) rfl (by omega) ?_
            refine Wl.storee 1 (q) 0 (_) t3 rfl rfl rfl rfl (fun _ => rfl) rfl rfl rfl (by omega) (addr_at _ _) (Nat.le_of_ble_eq_true rfl) rfl ?_
            refine Wl.nil ?_
            refine Wx.block_n ?_
            refine Wx.then_n ?_
            refine Wc.region ?_
            refine Wl.move rfl rfl ?_
            refine Wl.add rfl rfl rfl (by omega) ?_
            refine Wl.assign rfl rfl ?_
            refine Wl.nil ?_
            have hweq : (1 : Int) = wOf wl ns[q] := by (unfold wOf; rw [if_pos h53])
            exact Wx.againS ⟨k + 1, wl.set q (wOf wl ns[q]), _⟩ (by (try dsimp only); omega) ⟨rfl, rfl, rfl, rfl, trivial⟩ ⟨hk, by (try dsimp only); rw [List.length_set]; exact hwl, by (try dsimp only); exact set_bd hwb hbd, by (try dsimp only); rw [hw0, wgo_drop ns (order ns) wl k hk q hq hgi]⟩ (fun w hw => by rw [← hweq]; exact (hw.take 3).imp fun w h => h.1)
        ·
          refine Wc.skip ?_
          refine Wx.then_n ?_
          refine Wc.seq ?_
          refine Wc.seq ?_
          refine Wc.region ?_
          refine Wl.fld ⟨_, 7, none⟩ fl31_5 rfl rfl rfl ?_
          refine Wl.fld ⟨_, 7, none⟩ fl29_0 rfl rfl rfl ?_
          refine Wl.loadb 3 7 t3 rfl rfl rfl rfl ?_
          refine Wl.eql rfl rfl rfl ?_
          refine Wl.nil ?_
          refine Wx.then_n ?_
          refine Wc.condp rfl (fun h57 => ?_) (fun h57 => ?_)
          ·
            refine Wc.seq ?_
            refine Wc.region ?_
            refine Wl.fld ⟨_, 7, none⟩ fl31_5 rfl rfl rfl ?_
            refine Wl.fld ⟨_, 8, none⟩ fl29_1 rfl rfl rfl ?_
            refine Wl.loadb 3 8 t2 rfl rfl rfl rfl ?_
            refine Wl.sub rfl rfl rfl (by have := hwo h57; omega) ?_
            refine Wl.fld ⟨_, 7, none⟩ fl31_5 rfl rfl rfl ?_
            refine Wl.fld ⟨_, 9, none⟩ fl29_2 rfl rfl rfl ?_
            refine Wl.loadb 3 9 t2 rfl rfl rfl rfl ?_
            refine Wl.quo rfl rfl rfl (by have := hwo h57; omega) ?_
            refine Wl.add rfl rfl rfl (by have := times_pos (hwo h57).2; unfold times at this; rw [Int.tdiv_eq_ediv_of_nonneg (by have := hwo h57; omega), i64_wrap_in (by omega)]; omega) ?_
            refine Wl.assign rfl rfl ?_
            refine Wl.nil ?_
            refine Wx.then_n ?_
            refine Wc.region ?_
            refine Wl.move rfl rfl ?_
            refine Wl.mini rfl rfl rfl ?_
            refine Wl.move rfl rfl ?_
            refine Wl.mulw rfl rfl rfl ?_
            refine Wl.mini rfl rfl rfl ?_
            refine Wl.assign rfl rfl ?_
            refine Wl.nil ?_
            refine Wx.then_n ?_
            refine Wc.region ?_
            refine Wl.move rfl rfl ?_
            refine Wl.move rfl rfl ?_
            refine Wl.move rfl rfl ?_
            refine Wl.idx Tryz.underlying24 t3 rfl rfl rfl (by omega) ?_
            refine Wl.loadh (j := 0) (cs := eInt ((order ns)[k])) t3 (fun w hw => hw.own_cells 2 rfl rfl (fun _ => rfl) (fun _ => rfl) (by decide) k (by omega)) rfl rfl (Addr.add_zero' _).symm rfl ?_
            refine Wl.move rfl rfl ?_
            refine Wl.idx (j := q) Tryz.underlying24 t3 rfl (show _ = some (Value.int .i64 (q : Int)) from congrArg (fun z => some (Value.int .i64 z)) hgi) rfl (by omega) ?_
            refine Wl.storee 1 (q) 0 (_) t3 rfl rfl rfl rfl (fun _ => rfl) rfl rfl rfl (by omega) (addr_at _ _) (Nat.le_of_ble_eq_true rfl) rfl ?_
            refine Wl.nil ?_
            refine Wx.block_n ?_
            refine Wx.then_n ?_
            refine Wc.region ?_
            refine Wl.move rfl rfl ?_
            refine Wl.add rfl rfl rfl (by omega) ?_
            refine Wl.assign rfl rfl ?_
            refine Wl.nil ?_
            have hdiv : IntKind.i64.wrap ((ns[q].win.size - 1).tdiv ns[q].win.slide) + 1 = times ns[q] := by (have := times_pos (hwo h57).2; unfold times at this ⊢; rw [Int.tdiv_eq_ediv_of_nonneg (by have := hwo h57; omega), i64_wrap_in (by omega)])
            have ht := times_pos (hwo h57).2
            have hp1 : 0 ≤ min 65 (times ns[q]) * s := Int.mul_nonneg (by omega) (by omega)
            have hp2 : min 65 (times ns[q]) * s ≤ 65 * s := Int.mul_le_mul_of_nonneg_right (by omega) (by omega)
            have hweq : min (IntKind.i64.wrap (min (IntKind.i64.wrap ((ns[q].win.size - 1).tdiv ns[q].win.slide) + 1) 65 * s)) 65 = wOf wl ns[q] := by (unfold wOf; rw [if_neg h53, if_pos h57, hdiv, show min (times ns[q]) 65 = min 65 (times ns[q]) by omega, i64_wrap_in (by omega), ← hs1]; omega)
            exact Wx.againS ⟨k + 1, wl.set q (wOf wl ns[q]), _⟩ (by (try dsimp only); omega) ⟨rfl, rfl, rfl, rfl, trivial⟩ ⟨hk, by (try dsimp only); rw [List.length_set]; exact hwl, by (try dsimp only); exact set_bd hwb hbd, by (try dsimp only); rw [hw0, wgo_drop ns (order ns) wl k hk q hq hgi]⟩ (fun w hw => by rw [← hweq]; exact (hw.take 3).imp fun w h => h.1)
          ·
            refine Wc.skip ?_
            refine Wx.then_n ?_
            refine Wc.region ?_
            refine Wl.move rfl rfl ?_
            refine Wl.move rfl rfl ?_
            refine Wl.move rfl rfl ?_
            refine Wl.idx Tryz.underlying24 t3 rfl rfl rfl (by omega) ?_
            refine Wl.loadh (j := 0) (cs := eInt ((order ns)[k])) t3 (fun w hw => hw.own_cells 2 rfl rfl (fun _ => rfl) (fun _ => rfl) (by decide) k (by omega)) rfl rfl (Addr.add_zero' _).symm rfl ?_
            refine Wl.move rfl rfl ?_
            refine Wl.idx (j := q) Tryz.underlying24 t3 rfl (show _ = some (Value.int .i64 (q : Int)) from congrArg (fun z => some (Value.int .i64 z)) hgi) rfl (by omega) ?_
            refine Wl.storee 1 (q) 0 (_) t3 rfl rfl rfl rfl (fun _ => rfl) rfl rfl rfl (by omega) (addr_at _ _) (Nat.le_of_ble_eq_true rfl) rfl ?_
            refine Wl.nil ?_
            refine Wx.block_n ?_
            refine Wx.then_n ?_
            refine Wc.region ?_
            refine Wl.move rfl rfl ?_
            refine Wl.add rfl rfl rfl (by omega) ?_
            refine Wl.assign rfl rfl ?_
            refine Wl.nil ?_
            have hweq : s = wOf wl ns[q] := by (unfold wOf; rw [if_neg h53, if_neg h57, hs1])
            exact Wx.againS ⟨k + 1, wl.set q (wOf wl ns[q]), _⟩ (by (try dsimp only); omega) ⟨rfl, rfl, rfl, rfl, trivial⟩ ⟨hk, by (try dsimp only); rw [List.length_set]; exact hwl, by (try dsimp only); exact set_bd hwb hbd, by (try dsimp only); rw [hw0, wgo_drop ns (order ns) wl k hk q hq hgi]⟩ (fun w hw => by rw [← hweq]; exact (hw.take 3).imp fun w h => h.1)
    ·
      obtain rfl : k = (order ns).length := by omega
      rw [List.drop_length] at hw0
      refine Wc.exit ?_
      refine Wx.then_e ?_
      refine Wx.then_e ?_
      refine Wx.block_e ?_
      refine Wx.then_n ?_
      refine Wc.seq ?_
      refine Wc.region ?_
      refine Wl.move rfl rfl ?_
      refine Wl.assign rfl rfl ?_
      refine Wl.nil ?_
      refine Wx.then_n ?_
      refine Wc.ret ?_
      rw [hw0]
      exact Wx.retO rfl rfl (fun w hw => (hw.drop 2).drop 0)

end Go.Proofs.YtkffjbijamfnoaaGreat
