/-
  What is wrong with a job's logs.
-/
import Derived.Test.YtkffjbijamfnoaaGreatCheck
set_option linter.unusedVariables false
set_option linter.unusedSimpArgs false
namespace Go.Proofs.YtkffjbijamfnoaaGreat
open Go.RowKit

def kParts : Kn (List (List Item)) := Kn.slice (Kn.slice kItem)
theorem St.slice_get {α : Type} {d : Kn α} {w0 w : World} {m0 m : Nat → Prop} {L : List Blk} {R : World → Prop} {ad : Addr} {l : List (List α)} (h : St w0 m0 m L R w) (hR : ∀ w, R w → d.slice.Row w (some ad) l) (j : Nat) (hj : j < l.length) :
    ∃ p : Option Addr × Nat, l[j].length ≤ p.2 ∧ St w0 m0 m L (fun w => R w ∧ Cells w (ad.add (j * 1)) [.slice p.1 l[j].length p.2] ∧ d.Row w p.1 l[j]) w := by
  obtain ⟨c, hc⟩ := h.row_get hR j hj
  obtain ⟨p, e, hp⟩ := hc.open (fun p : Option Addr × Nat => [Value.slice p.1 l[j].length p.2]) (fun x y e => by
    simp only [List.cons.injEq, Value.slice.injEq, true_and, and_true] at e
    exact Prod.ext e.1 e.2) (Q := fun p w => l[j].length ≤ p.2 ∧ d.Row w p.1 l[j]) (fun w hw => let ⟨A, c, e, h1, h2⟩ := hw.2.2; ⟨(A, c), e, h1, h2⟩)
  subst e
  exact ⟨p, hp.now.2.1, hp.imp fun w hw => ⟨hw.1.1, hw.1.2.1, hw.2.2⟩⟩
def partOk (p : List Item) : Bool := decide (p.length ≤ 4096) && p.all itemOk
def wantParts (n : Node) : Int := if n.kind = 1 then n.par else 0
def partsOk (n : Node) (ps : List (List Item)) : Bool := decide ((ps.length : Int) = wantParts n) && ps.all partOk
/-- What is wrong with a job's logs. -/
def logsErr (ns : List Node) (l : Logs) : Int := if l.length ≠ ns.length then 89 else if (ns.zip l).all (fun x => partsOk x.1 x.2) then 0 else 89
theorem logsErr_bad {ns : List Node} {l : Logs} (k : Nat) (hk : k < ns.length) (hk2 : k < l.length) (h : partsOk ns[k] l[k] = false) : logsErr ns l = 89 := by
  unfold logsErr
  split
  · rfl
  · rw [if_neg]
    intro h'
    have hz : k < (ns.zip l).length := by rw [List.length_zip]; omega
    have := List.all_eq_true.1 h' (ns.zip l)[k] (List.getElem_mem hz)
    rw [List.getElem_zip] at this
    rw [h] at this
    cases this
theorem logsErr_ok {ns : List Node} {l : Logs} (hl : l.length = ns.length) (h : ∀ x ∈ (ns.zip l).take ns.length, partsOk x.1 x.2 = true) : logsErr ns l = 0 := by
  unfold logsErr
  rw [if_neg (by omega), if_pos]
  rw [List.take_of_length_le (by rw [List.length_zip]; omega)] at h
  exact List.all_eq_true.2 h
theorem zip_take {ns : List Node} {l : Logs} {k : Nat} (hk : k < ns.length) (hk2 : k < l.length) (h : ∀ x ∈ (ns.zip l).take k, partsOk x.1 x.2 = true) (h1 : partsOk ns[k] l[k] = true) : ∀ x ∈ (ns.zip l).take (k + 1), partsOk x.1 x.2 = true :=
  forall_take (by rw [List.length_zip]; omega) h (by rw [List.getElem_zip]; exact h1)
theorem partsOk_len {n : Node} {ps : List (List Item)} (h : (ps.length : Int) ≠ wantParts n) : partsOk n ps = false := by unfold partsOk; rw [decide_eq_false h]; rfl
theorem partsOk_bad {n : Node} {ps : List (List Item)} (k : Nat) (hk : k < ps.length) (h : partOk ps[k] = false) : partsOk n ps = false := by
  unfold partsOk
  rw [show ps.all partOk = false from List.all_eq_false.2 ⟨_, List.getElem_mem hk, by rw [h]; simp⟩]
  simp
theorem partsOk_all {n : Node} {ps : List (List Item)} (h : (ps.length : Int) = wantParts n) (h1 : ∀ p ∈ ps.take ps.length, partOk p = true) : partsOk n ps = true := by
  unfold partsOk
  rw [List.take_length] at h1
  rw [decide_eq_true h, List.all_eq_true.2 h1]; rfl
theorem partOk_long {p : List Item} (h : 4096 < (p.length : Int)) : partOk p = false := by unfold partOk; rw [decide_eq_false (by omega)]; rfl
theorem partOk_not {p : List Item} (h : ¬ 4096 < (p.length : Int)) : partOk p = !p.any (fun x => !itemOk x) := by
  unfold partOk
  rw [decide_eq_true (by omega), Bool.true_and, List.all_eq_not_any_not]
theorem logs_any (m : Nat → Prop) (A : Option Addr) (c : Nat) (p : List Item) (w : World) (hr : Ro m w fun w => kItem.Row w A p) : Calls Tryz.prog 165 #[.slice A p.length c, .func (.func 166) #[] #[]] w (PostV m w (.bool (p.any (fun x => !itemOk x)))) := by
  have h := any_items m A c p (fun _ => True) 166 _ Tryz.func166 rfl rfl [] (fun x => !itemOk x) (fun m w i _ hr => logs1_calls m i w hr)
  exact h w (hr.imp fun w h => ⟨trivial, h⟩)

theorem joblogs_calls (m : Nat → Prop) (J A : Option Addr) (jc c : Nat) (ns : List Node) (l : Logs) (w : World) (hr : Ro m w (fun w => kNode.Row w J ns ∧ kParts.Row w A l)) (hjc : ns.length ≤ jc) (hc : l.length ≤ c) :
    Calls Tryz.prog 125 #[.agg #[.slice J ns.length jc], .slice A l.length c] w (PostV m w (.int .i64 (logsErr ns l))) := by
  have hnl := hr.now.1.1
  have hll0 := hr.now.2.1
  refine calls_of_Wc (args := [.agg #[.slice J ns.length jc], .slice A l.length c]) 55 Tryz.func125 rfl rfl (by simp) ?_
  refine Wc.start hr ?_
  refine Wc.seq ?_
  refine Wc.region ?_
  refine Wl.box rfl rfl rfl (fun b2 => ?_)
  refine Wl.assign rfl rfl ?_
  refine Wl.nil ?_
  refine Wx.then_n ?_
  refine Wc.seq ?_
  refine Wc.seq ?_
  refine Wc.region ?_
  refine Wl.move rfl rfl ?_
  refine Wl.len Tryz.underlying38 rfl rfl ?_
  refine Wl.fld ⟨_, 0, none⟩ fl34_0 rfl rfl rfl ?_
  refine Wl.loadb 0 0 t32 rfl rfl rfl rfl ?_
  refine Wl.len Tryz.underlying32 rfl rfl ?_
  refine Wl.neq rfl rfl rfl ?_
  refine Wl.nil ?_
  refine Wx.then_n ?_
  refine Wc.condp rfl (fun h15 => ?_) (fun h15 => ?_)
  ·
    refine Wc.seq ?_
    refine Wc.region ?_
    refine Wl.assign rfl rfl ?_
    refine Wl.nil ?_
    refine Wx.then_n ?_
    refine Wc.ret ?_
    refine Wx.then_r ?_
    exact Wx.retI rfl rfl (by unfold logsErr; rw [if_pos (by omega)])
  ·
    have hll : l.length = ns.length := by omega
    refine Wc.skip ?_
    refine Wx.then_n ?_
    refine Wc.seq ?_
    refine Wc.seq ?_
    refine Wc.region ?_
    refine Wl.move rfl rfl ?_
    refine Wl.len Tryz.underlying38 rfl rfl ?_
    refine Wl.move rfl rfl ?_
    refine Wl.nil ?_
    refine Wx.then_n ?_
    refine Wc.block ?_
    refine Wc.loopS (G := Nat) (fun g => match g with | k => [(1, .slice A l.length c), (2, .pointer (some ⟨b2, 0, none⟩)), (4, .int .i64 0), (16, .slice A l.length c), (17, .int .i64 l.length), (18, .int .i64 k)]) (fun g => match g with | k => k ≤ ns.length ∧ ∀ x ∈ (ns.zip l).take k, partsOk x.1 x.2 = true) (fun g => match g with | k => [.box b2 [.slice J ns.length jc] 34]) (fun g => match g with | k => fun w => kNode.Row w J ns ∧ kParts.Row w A l) (fun g => match g with | k => ns.length - k) 0 ⟨rfl, rfl, rfl, rfl, rfl, rfl, trivial⟩ ⟨Nat.zero_le _, by simp⟩ (fun w hw => hw) ?_
    rintro k ⟨hk0, he⟩
    dsimp only
    refine Wc.seq ?_
    refine Wc.region ?_
    refine Wl.lss rfl rfl rfl ?_
    refine Wl.nil ?_
    refine Wx.then_n ?_
    refine Wc.seq ?_
    refine Wc.condp rfl (fun h19 => ?_) (fun h19 => ?_)
    ·
      have hk : k < ns.length := by omega
      have hk2 : k < l.length := by omega
      refine Wc.pure (p := ∃ ad, A = some ad) (fun w hw => hw.addr (fun w h => h.2) (by omega)) ?_
      rintro ⟨ad, rfl⟩
      refine Wc.exS (fun w hw => hw.slice_get (fun w h => h.2) k hk2) ?_
      rintro ⟨A6, c6⟩ hc6
      dsimp only at hc6 ⊢
      refine Wc.pure (p := ∃ jd, J = some jd) (fun w hw => hw.addr (fun w h => h.1.1) (by omega)) ?_
      rintro ⟨jd, rfl⟩
      refine Wc.exS (fun w hw => hw.node_get (fun w h => h.1.1) k hk) ?_
      rintro ⟨⟨A2, c2⟩, A4, c4⟩ hcc
      dsimp only at hcc ⊢
      refine Wc.skip ?_
      refine Wx.then_n ?_
      refine Wc.seq ?_
      refine Wc.block ?_
      refine Wc.seq ?_
      refine Wc.region ?_
      refine Wl.move rfl rfl ?_
      refine Wl.idx Tryz.underlying38 t36 rfl rfl rfl hk2 ?_
      refine Wl.loadr (j := 0) (cs := [.slice A6 l[k].length c6]) t36 (fun w h => h.1.2.1) rfl rfl (Addr.add_zero' _).symm rfl ?_
      refine Wl.assign rfl rfl ?_
      refine Wl.assign rfl rfl ?_
      refine Wl.nil ?_
      refine Wx.then_n ?_
      refine Wc.seq ?_
      refine Wc.region ?_
      refine Wl.assign rfl rfl ?_
      refine Wl.nil ?_
      refine Wx.then_n ?_
      refine Wc.cutS (G := Int) (fun g => match g with | want => [(1, .slice (some ad) l.length c), (2, .pointer (some ⟨b2, 0, none⟩)), (4, .int .i64 0), (16, .slice (some ad) l.length c), (17, .int .i64 l.length), (18, .int .i64 k), (5, .int .i64 k), (6, .slice A6 l[k].length c6), (7, .int .i64 want)]) (fun g => match g with | want => want = wantParts ns[k]) (fun g => match g with | want => [.box b2 [.slice (some jd) ns.length jc] 34]) (fun g => match g with | want => fun w => ((kNode.Row w (some jd) ns ∧ kParts.Row w (some ad) l) ∧ Cells w (ad.add (k * 1)) [.slice A6 l[k].length c6] ∧ (Kn.slice kItem).Row w A6 l[k]) ∧ Cells w (jd.add (k * 10)) (nodeCells ns[k] ((A2, c2), (A4, c4))) ∧ kInt.Row w A2 ns[k].ins ∧ kExpr.Row w A4 ns[k].e.l) ?_ ?_
      ·
        refine Wc.seq ?_
        refine Wc.region ?_
        refine Wl.fld ⟨_, 0, none⟩ fl34_0 rfl rfl rfl ?_
        refine Wl.loadb 0 0 t32 rfl rfl rfl rfl ?_
        refine Wl.move rfl rfl ?_
        refine Wl.idx Tryz.underlying32 t31 rfl rfl rfl hk ?_
        refine Wl.fld _ fl31_0 rfl rfl rfl ?_
        refine Wl.loadr (j := 0) (cs := (nodeCells ns[k] ((A2, c2), (A4, c4)))) t3 (fun w h => h.2.1) rfl rfl rfl rfl ?_
        refine Wl.eql rfl rfl rfl ?_
        refine Wl.nil ?_
        refine Wx.then_n ?_
        refine Wc.condp rfl (fun h29 => ?_) (fun h29 => ?_)
        ·
          refine Wc.region ?_
          refine Wl.fld ⟨_, 0, none⟩ fl34_0 rfl rfl rfl ?_
          refine Wl.loadb 0 0 t32 rfl rfl rfl rfl ?_
          refine Wl.move rfl rfl ?_
          refine Wl.idx Tryz.underlying32 t31 rfl rfl rfl hk ?_
          refine Wl.fld _ fl31_2 rfl rfl rfl ?_
          refine Wl.loadr (j := 2) (cs := (nodeCells ns[k] ((A2, c2), (A4, c4)))) t3 (fun w h => h.2.1) rfl rfl rfl rfl ?_
          refine Wl.assign rfl rfl ?_
          refine Wl.nil ?_
          exact Wx.metS _ ⟨rfl, rfl, rfl, rfl, rfl, rfl, rfl, rfl, rfl, trivial⟩ (by unfold wantParts; rw [if_pos h29]) (fun w hw => hw)
        ·
          refine Wc.skip ?_
          exact Wx.metS 0 ⟨rfl, rfl, rfl, rfl, rfl, rfl, rfl, rfl, rfl, trivial⟩ (by unfold wantParts; rw [if_neg h29]) (fun w hw => hw)
      ·
        rintro want hwant
        dsimp only
        refine Wc.seq ?_
        refine Wc.seq ?_
        refine Wc.region ?_
        refine Wl.move rfl rfl ?_
        refine Wl.len Tryz.underlying36 rfl rfl ?_
        refine Wl.move rfl rfl ?_
        refine Wl.neq rfl rfl rfl ?_
        refine Wl.nil ?_
        refine Wx.then_n ?_
        refine Wc.condp rfl (fun h39 => ?_) (fun h39 => ?_)
        ·
          refine Wc.seq ?_
          refine Wc.region ?_
          refine Wl.assign rfl rfl ?_
          refine Wl.nil ?_
          refine Wx.then_n ?_
          refine Wc.ret ?_
          refine Wx.then_r ?_
          refine Wx.block_r ?_
          refine Wx.then_r ?_
          refine Wx.then_r ?_
          refine Wx.block_r ?_
          refine Wx.then_r ?_
          exact Wx.retI rfl rfl (logsErr_bad k hk hk2 (partsOk_len (by omega))).symm
        ·
          refine Wc.skip ?_
          refine Wx.then_n ?_
          refine Wc.seq ?_
          refine Wc.region ?_
          refine Wl.move rfl rfl ?_
          refine Wl.len Tryz.underlying36 rfl rfl ?_
          refine Wl.move rfl rfl ?_
          refine Wl.nil ?_
          refine Wx.then_n ?_
          refine Wc.block ?_
          refine Wc.pure (p := l[k].length ≤ 9223372036854775807) (fun w hw => hw.now.1.2.2.1) ?_
          intro hlk
          refine Wc.loopS (G := Nat) (fun g => match g with | kk => [(1, .slice (some ad) l.length c), (2, .pointer (some ⟨b2, 0, none⟩)), (4, .int .i64 0), (16, .slice (some ad) l.length c), (17, .int .i64 l.length), (18, .int .i64 k), (5, .int .i64 k), (6, .slice A6 l[k].length c6), (40, .slice A6 l[k].length c6), (41, .int .i64 l[k].length), (42, .int .i64 kk)]) (fun g => match g with | kk => kk ≤ l[k].length ∧ ∀ p ∈ l[k].take kk, partOk p = true) (fun g => match g with | kk => [.box b2 [.slice (some jd) ns.length jc] 34]) (fun g => match g with | kk => fun w => ((kNode.Row w (some jd) ns ∧ kParts.Row w (some ad) l) ∧ Cells w (ad.add (k * 1)) [.slice A6 l[k].length c6] ∧ (Kn.slice kItem).Row w A6 l[k]) ∧ Cells w (jd.add (k * 10)) (nodeCells ns[k] ((A2, c2), (A4, c4))) ∧ kInt.Row w A2 ns[k].ins ∧ kExpr.Row w A4 ns[k].e.l) (fun g => match g with | kk => l[k].length - kk) 0 ⟨rfl, rfl, rfl, rfl, rfl, rfl, rfl, rfl, rfl, rfl, rfl, trivial⟩ ⟨Nat.zero_le _, by simp⟩ (fun w hw => hw) ?_
          rintro kk ⟨hkk, hpo⟩
          dsimp only
          refine Wc.seq ?_
          refine Wc.region ?_
          refine Wl.lss rfl rfl rfl ?_
          refine Wl.nil ?_
          refine Wx.then_n ?_
          refine Wc.seq ?_
          refine Wc.condp rfl (fun h43 => ?_) (fun h43 => ?_)
          ·
            have hkk1 : kk < l[k].length := by omega
            refine Wc.pure (p := ∃ ad, A6 = some ad) (fun w hw => hw.addr (fun w h => h.1.2.2) (by omega)) ?_
            rintro ⟨ad6, rfl⟩
            refine Wc.exS (fun w hw => hw.slice_get (fun w h => h.1.2.2) kk hkk1) ?_
            rintro ⟨A9, c9⟩ hc9
            dsimp only at hc9 ⊢
            refine Wc.skip ?_
            refine Wx.then_n ?_
            refine Wc.seq ?_
            refine Wc.block ?_
            refine Wc.seq ?_
            refine Wc.region ?_
            refine Wl.idx Tryz.underlying36 t22 rfl rfl rfl hkk1 ?_
            refine Wl.loadr (j := 0) (cs := [.slice A9 l[k][kk].length c9]) t22 (fun w h => h.2.1) rfl rfl (Addr.add_zero' _).symm rfl ?_
            refine Wl.assign rfl rfl ?_
            refine Wl.nil ?_
            refine Wx.then_n ?_
            refine Wc.seq ?_
            refine Wc.region ?_
            refine Wl.move rfl rfl ?_
            refine Wl.len Tryz.underlying22 rfl rfl ?_
            refine Wl.gtr rfl rfl rfl ?_
            refine Wl.move rfl rfl ?_
            refine Wl.splitp 49 rfl (fun h49 => ?_) (fun h49 => ?_)
            ·
              refine Wl.skip rfl rfl ?_
              refine Wl.skip rfl rfl ?_
              refine Wl.pick_t rfl rfl rfl ?_
              refine Wl.nil ?_
              refine Wx.then_n ?_
              refine Wc.cond_t rfl ?_
              refine Wc.seq ?_
              refine Wc.region ?_
              refine Wl.assign rfl rfl ?_
              refine Wl.nil ?_
              refine Wx.then_n ?_
              refine Wc.ret ?_
              refine Wx.block_r ?_
              refine Wx.then_r ?_
              refine Wx.then_r ?_
              refine Wx.block_r ?_
              refine Wx.block_r ?_
              refine Wx.then_r ?_
              refine Wx.then_r ?_
              refine Wx.block_r ?_
              refine Wx.then_r ?_
              exact Wx.retI rfl rfl (logsErr_bad k hk hk2 (partsOk_bad kk hkk1 (partOk_long h49))).symm
            ·
              refine Wl.move rfl rfl ?_
              refine Wl.callV [.slice A9 l[k][kk].length c9, .func (.func 166) #[] #[]] Tryz.func165 rfl rfl rfl rfl (fun w hw => logs_any _ A9 c9 l[k][kk] w (hw.read fun w h => h.2.2)) ?_
              refine Wl.pick_f rfl rfl rfl ?_
              refine Wl.nil ?_
              refine Wx.then_n ?_
              refine Wc.cond rfl (fun h52 => ?_) (fun h52 => ?_)
              ·
                refine Wc.seq ?_
                refine Wc.region ?_
                refine Wl.assign rfl rfl ?_
                refine Wl.nil ?_
                refine Wx.then_n ?_
                refine Wc.ret ?_
                refine Wx.block_r ?_
                refine Wx.then_r ?_
                refine Wx.then_r ?_
                refine Wx.block_r ?_
                refine Wx.block_r ?_
                refine Wx.then_r ?_
                refine Wx.then_r ?_
                refine Wx.block_r ?_
                refine Wx.then_r ?_
                exact Wx.retI rfl rfl (logsErr_bad k hk hk2 (partsOk_bad kk hkk1 (by rw [partOk_not h49, h52]; rfl))).symm
              ·
                refine Wc.skip ?_
                refine Wx.block_n ?_
                refine Wx.then_n ?_
                refine Wc.region ?_
                refine Wl.add rfl rfl rfl (by omega) ?_
                refine Wl.move rfl rfl ?_
                refine Wl.nil ?_
                exact Wx.againS (kk + 1) (by omega) ⟨rfl, rfl, rfl, rfl, rfl, rfl, rfl, rfl, rfl, rfl, rfl, trivial⟩ ⟨hkk1, forall_take hkk1 hpo (by rw [partOk_not h49, h52]; rfl)⟩ (fun w hw => hw.imp fun w h => h.1)
          ·
            obtain rfl : kk = l[k].length := by omega
            refine Wc.exit ?_
            refine Wx.then_e ?_
            refine Wx.then_e ?_
            refine Wx.block_e ?_
            refine Wx.block_n ?_
            refine Wx.then_n ?_
            refine Wc.region ?_
            refine Wl.add rfl rfl rfl (by omega) ?_
            refine Wl.move rfl rfl ?_
            refine Wl.nil ?_
            exact Wx.againS (k + 1) (by omega) ⟨rfl, rfl, rfl, rfl, rfl, rfl, trivial⟩ ⟨hk, zip_take hk hk2 he (partsOk_all (by omega) hpo)⟩ (fun w hw => hw.imp fun w h => h.1.1)
    ·
      obtain rfl : k = ns.length := by omega
      refine Wc.exit ?_
      refine Wx.then_e ?_
      refine Wx.then_e ?_
      refine Wx.block_e ?_
      refine Wx.then_n ?_
      refine Wc.seq ?_
      refine Wc.region ?_
      refine Wl.assign rfl rfl ?_
      refine Wl.nil ?_
      refine Wx.then_n ?_
      refine Wc.ret ?_
      exact Wx.retI rfl rfl (logsErr_ok hll he).symm

theorem itemOk_split (x : Item) : itemOk x = ((decide (x.kind = 1) && itemOk x) || (decide (x.kind = 2) && itemOk x)) := by
  by_cases h1 : x.kind = 1
  · rw [decide_eq_true h1]; cases itemOk x <;> simp
  · by_cases h2 : x.kind = 2
    · rw [decide_eq_true h2]; cases itemOk x <;> simp
    · unfold itemOk; rw [if_neg h1, if_neg h2]; simp
theorem partOk_bad {p : List Item} (j : Nat) (hj : j < p.length) (h : itemOk p[j] = false) : partOk p = false := by
  unfold partOk
  rw [show p.all itemOk = false from List.all_eq_false.2 ⟨_, List.getElem_mem hj, by rw [h]; simp⟩]
  simp
theorem partOk_all {p : List Item} (h : ¬ 4096 < (p.length : Int)) (h1 : ∀ x ∈ p.take p.length, itemOk x = true) : partOk p = true := by
  unfold partOk
  rw [List.take_length] at h1
  rw [decide_eq_true (by omega), List.all_eq_true.2 h1]; rfl

set_option maxHeartbeats 1000000 in
theorem logsof_calls (m : Nat → Prop) (J A : Option Addr) (jc c : Nat) (ns : List Node) (l : Logs) (w : World) (hr : Ro m w (fun w => kNode.Row w J ns ∧ kParts.Row w A l)) (hjc : ns.length ≤ jc) (hc : l.length ≤ c) :
    Calls Tryz.prog 55 #[.agg #[.slice J ns.length jc], .slice A l.length c] w (PostV m w (.int .i64 (logsErr ns l))) := by
  have hnl := hr.now.1.1
  have hll0 := hr.now.2.1
  refine calls_of_Wc (args := [.agg #[.slice J ns.length jc], .slice A l.length c]) 130 Tryz.func55 rfl rfl (by simp) ?_
  refine Wc.start hr ?_
  refine Wc.seq ?_
  refine Wc.region ?_
  refine Wl.box rfl rfl rfl (fun b2 => ?_)
  refine Wl.assign rfl rfl ?_
  refine Wl.nil ?_
  refine Wx.then_n ?_
  refine Wc.seq ?_
  refine Wc.seq ?_
  refine Wc.region ?_
  refine Wl.move rfl rfl ?_
  refine Wl.len Tryz.underlying38 rfl rfl ?_
  refine Wl.fld ⟨_, 0, none⟩ fl34_0 rfl rfl rfl ?_
  refine Wl.loadb 0 0 t32 rfl rfl rfl rfl ?_
  refine Wl.len Tryz.underlying32 rfl rfl ?_
  refine Wl.neq rfl rfl rfl ?_
  refine Wl.nil ?_
  refine Wx.then_n ?_
  refine Wc.condp rfl (fun h17 => ?_) (fun h17 => ?_)
  ·
    refine Wc.seq ?_
    refine Wc.region ?_
    refine Wl.assign rfl rfl ?_
    refine Wl.nil ?_
    refine Wx.then_n ?_
    refine Wc.ret ?_
    refine Wx.then_r ?_
    exact Wx.retI rfl rfl (by unfold logsErr; rw [if_pos (by omega)])
  ·
    have hll : l.length = ns.length := by omega
    refine Wc.skip ?_
    refine Wx.then_n ?_
    refine Wc.seq ?_
    refine Wc.seq ?_
    refine Wc.region ?_
    refine Wl.assign rfl rfl ?_
    refine Wl.nil ?_
    refine Wx.then_n ?_
    refine Wc.block ?_
    refine Wc.loopS (G := Nat) (fun g => match g with | k => [(1, .slice A l.length c), (2, .pointer (some ⟨b2, 0, none⟩)), (4, .int .i64 0), (5, .int .i64 k)]) (fun g => match g with | k => k ≤ ns.length ∧ ∀ x ∈ (ns.zip l).take k, partsOk x.1 x.2 = true) (fun g => match g with | k => [.box b2 [.slice J ns.length jc] 34]) (fun g => match g with | k => fun w => kNode.Row w J ns ∧ kParts.Row w A l) (fun g => match g with | k => ns.length - k) 0 ⟨rfl, rfl, rfl, rfl, trivial⟩ ⟨Nat.zero_le _, by simp⟩ (fun w hw => hw) ?_
    rintro k ⟨hk0, he⟩
    dsimp only
    refine Wc.seq ?_
    refine Wc.seq ?_
    refine Wc.region ?_
    refine Wl.move rfl rfl ?_
    refine Wl.move rfl rfl ?_
    refine Wl.len Tryz.underlying38 rfl rfl ?_
    refine Wl.lss rfl rfl rfl ?_
    refine Wl.nil ?_
    refine Wx.then_n ?_
    refine Wc.condp rfl (fun h21 => ?_) (fun h21 => ?_)
    ·
      have hk : k < ns.length := by omega
      have hk2 : k < l.length := by omega
      refine Wc.pure (p := ∃ ad, A = some ad) (fun w hw => hw.addr (fun w h => h.2) (by omega)) ?_
      rintro ⟨ad, rfl⟩
      refine Wc.exS (fun w hw => hw.slice_get (fun w h => h.2) k hk2) ?_
      rintro ⟨A6, c6⟩ hc6
      dsimp only at hc6 ⊢
      refine Wc.pure (p := ∃ jd, J = some jd) (fun w hw => hw.addr (fun w h => h.1.1) (by omega)) ?_
      rintro ⟨jd, rfl⟩
      refine Wc.exS (fun w hw => hw.node_get (fun w h => h.1.1) k hk) ?_
      rintro ⟨⟨A2, c2⟩, A4, c4⟩ hcc
      dsimp only at hcc ⊢
      refine Wc.pure (p := l[k].length ≤ 9223372036854775807) (fun w hw => hw.now.1.2.2.1) ?_
      intro hlk
      refine Wc.skip ?_
      refine Wx.then_n ?_
      refine Wc.seq ?_
      refine Wc.block ?_
      refine Wc.seq ?_
      refine Wc.region ?_
      refine Wl.assign rfl rfl ?_
      refine Wl.nil ?_
      refine Wx.then_n ?_
      refine Wc.cutS (G := Int) (fun g => match g with | want => [(1, .slice (some ad) l.length c), (2, .pointer (some ⟨b2, 0, none⟩)), (4, .int .i64 0), (5, .int .i64 k), (6, .int .i64 want)]) (fun g => match g with | want => want = wantParts ns[k]) (fun g => match g with | want => [.box b2 [.slice (some jd) ns.length jc] 34]) (fun g => match g with | want => fun w => ((kNode.Row w (some jd) ns ∧ kParts.Row w (some ad) l) ∧ Cells w (ad.add (k * 1)) [.slice A6 l[k].length c6] ∧ (Kn.slice kItem).Row w A6 l[k]) ∧ Cells w (jd.add (k * 10)) (nodeCells ns[k] ((A2, c2), (A4, c4))) ∧ kInt.Row w A2 ns[k].ins ∧ kExpr.Row w A4 ns[k].e.l) ?_ ?_
      ·
        refine Wc.seq ?_
        refine Wc.region ?_
        refine Wl.fld ⟨_, 0, none⟩ fl34_0 rfl rfl rfl ?_
        refine Wl.loadb 0 0 t32 rfl rfl rfl rfl ?_
        refine Wl.move rfl rfl ?_
        refine Wl.idx Tryz.underlying32 t31 rfl rfl rfl hk ?_
        refine Wl.fld _ fl31_0 rfl rfl rfl ?_
        refine Wl.loadr (j := 0) (cs := (nodeCells ns[k] ((A2, c2), (A4, c4)))) t3 (fun w h => h.2.1) rfl rfl rfl rfl ?_
        refine Wl.eql rfl rfl rfl ?_
        refine Wl.nil ?_
        refine Wx.then_n ?_
        refine Wc.condp rfl (fun h30 => ?_) (fun h30 => ?_)
        ·
          refine Wc.region ?_
          refine Wl.fld ⟨_, 0, none⟩ fl34_0 rfl rfl rfl ?_
          refine Wl.loadb 0 0 t32 rfl rfl rfl rfl ?_
          refine Wl.move rfl rfl ?_
          refine Wl.idx Tryz.underlying32 t31 rfl rfl rfl hk ?_
          refine Wl.fld _ fl31_2 rfl rfl rfl ?_
          refine Wl.loadr (j := 2) (cs := (nodeCells ns[k] ((A2, c2), (A4, c4)))) t3 (fun w h => h.2.1) rfl rfl rfl rfl ?_
          refine Wl.assign rfl rfl ?_
          refine Wl.nil ?_
          exact Wx.metS _ ⟨rfl, rfl, rfl, rfl, rfl, trivial⟩ (by unfold wantParts; rw [if_pos h30]) (fun w hw => hw)
        ·
          refine Wc.skip ?_
          exact Wx.metS 0 ⟨rfl, rfl, rfl, rfl, rfl, trivial⟩ (by unfold wantParts; rw [if_neg h30]) (fun w hw => hw)
      ·
        rintro want hwant
        dsimp only
        refine Wc.seq ?_
        refine Wc.seq ?_
        refine Wc.region ?_
        refine Wl.move rfl rfl ?_
        refine Wl.move rfl rfl ?_
        refine Wl.idx Tryz.underlying38 t36 rfl rfl rfl hk2 ?_
        refine Wl.loadr (j := 0) (cs := [.slice A6 l[k].length c6]) t36 (fun w h => h.1.2.1) rfl rfl (Addr.add_zero' _).symm rfl ?_
        refine Wl.len Tryz.underlying36 rfl rfl ?_
        refine Wl.move rfl rfl ?_
        refine Wl.neq rfl rfl rfl ?_
        refine Wl.nil ?_
        refine Wx.then_n ?_
        refine Wc.condp rfl (fun h43 => ?_) (fun h43 => ?_)
        ·
          refine Wc.seq ?_
          refine Wc.region ?_
          refine Wl.assign rfl rfl ?_
          refine Wl.nil ?_
          refine Wx.then_n ?_
          refine Wc.ret ?_
          refine Wx.then_r ?_
          refine Wx.block_r ?_
          refine Wx.then_r ?_
          refine Wx.then_r ?_
          refine Wx.block_r ?_
          refine Wx.then_r ?_
          exact Wx.retI rfl rfl (logsErr_bad k hk hk2 (partsOk_len (by omega))).symm
        ·
          obtain rfl : want = (l[k].length : Int) := by omega
          refine Wc.skip ?_
          refine Wx.then_n ?_
          refine Wc.seq ?_
          refine Wc.region ?_
          refine Wl.assign rfl rfl ?_
          refine Wl.nil ?_
          refine Wx.then_n ?_
          refine Wc.block ?_
          refine Wc.loopS (G := Nat) (fun g => match g with | kk => [(1, .slice (some ad) l.length c), (2, .pointer (some ⟨b2, 0, none⟩)), (4, .int .i64 0), (5, .int .i64 k), (6, .int .i64 l[k].length), (7, .int .i64 kk)]) (fun g => match g with | kk => kk ≤ l[k].length ∧ ∀ p ∈ l[k].take kk, partOk p = true) (fun g => match g with | kk => [.box b2 [.slice (some jd) ns.length jc] 34]) (fun g => match g with | kk => fun w => ((kNode.Row w (some jd) ns ∧ kParts.Row w (some ad) l) ∧ Cells w (ad.add (k * 1)) [.slice A6 l[k].length c6] ∧ (Kn.slice kItem).Row w A6 l[k]) ∧ Cells w (jd.add (k * 10)) (nodeCells ns[k] ((A2, c2), (A4, c4))) ∧ kInt.Row w A2 ns[k].ins ∧ kExpr.Row w A4 ns[k].e.l) (fun g => match g with | kk => l[k].length - kk) 0 ⟨rfl, rfl, rfl, rfl, rfl, rfl, trivial⟩ ⟨Nat.zero_le _, by simp⟩ (fun w hw => hw) ?_
          rintro kk ⟨hkk, hpo⟩
          dsimp only
          refine Wc.seq ?_
          refine Wc.seq ?_
          refine Wc.region ?_
          refine Wl.move rfl rfl ?_
          refine Wl.move rfl rfl ?_
          refine Wl.lss rfl rfl rfl ?_
          refine Wl.nil ?_
          refine Wx.then_n ?_
          refine Wc.condp rfl (fun h46 => ?_) (fun h46 => ?_)
          ·
            have hkk1 : kk < l[k].length := by omega
            refine Wc.pure (p := ∃ ad, A6 = some ad) (fun w hw => hw.addr (fun w h => h.1.2.2) (by omega)) ?_
            rintro ⟨ad6, rfl⟩
            refine Wc.exS (fun w hw => hw.slice_get (fun w h => h.1.2.2) kk hkk1) ?_
            rintro ⟨A9, c9⟩ hc9
            dsimp only at hc9 ⊢
            refine Wc.pure (p := l[k][kk].length ≤ 9223372036854775807) (fun w hw => hw.now.2.2.1) ?_
            intro hlp
            refine Wc.skip ?_
            refine Wx.then_n ?_
            refine Wc.seq ?_
            refine Wc.block ?_
            refine Wc.seq ?_
            refine Wc.seq ?_
            refine Wc.region ?_
            refine Wl.move rfl rfl ?_
            refine Wl.move rfl rfl ?_
            refine Wl.idx Tryz.underlying38 t36 rfl rfl rfl hk2 ?_
            refine Wl.loadr (j := 0) (cs := [.slice (some ad6) l[k].length c6]) t36 (fun w h => h.1.1.2.1) rfl rfl (Addr.add_zero' _).symm rfl ?_
            refine Wl.move rfl rfl ?_
            refine Wl.idx Tryz.underlying36 t22 rfl rfl rfl hkk1 ?_
            refine Wl.loadr (j := 0) (cs := [.slice A9 l[k][kk].length c9]) t22 (fun w h => h.2.1) rfl rfl (Addr.add_zero' _).symm rfl ?_
            refine Wl.len Tryz.underlying22 rfl rfl ?_
            refine Wl.gtr rfl rfl rfl ?_
            refine Wl.nil ?_
            refine Wx.then_n ?_
            refine Wc.condp rfl (fun h57 => ?_) (fun h57 => ?_)
            ·
              refine Wc.seq ?_
              refine Wc.region ?_
              refine Wl.assign rfl rfl ?_
              refine Wl.nil ?_
              refine Wx.then_n ?_
              refine Wc.ret ?_
              refine Wx.then_r ?_
              refine Wx.block_r ?_
              refine Wx.then_r ?_
              refine Wx.then_r ?_
              refine Wx.block_r ?_
              refine Wx.block_r ?_
              refine Wx.then_r ?_
              refine Wx.then_r ?_
              refine Wx.block_r ?_
              refine Wx.then_r ?_
              exact Wx.retI rfl rfl (logsErr_bad k hk hk2 (partsOk_bad kk hkk1 (partOk_long h57))).symm
            ·
              refine Wc.skip ?_
              refine Wx.then_n ?_
              refine Wc.seq ?_
              refine Wc.region ?_
              refine Wl.assign rfl rfl ?_
              refine Wl.nil ?_
              refine Wx.then_n ?_
              refine Wc.block ?_
              refine Wc.loopS (G := Nat) (fun g => match g with | j => [(1, .slice (some ad) l.length c), (2, .pointer (some ⟨b2, 0, none⟩)), (4, .int .i64 0), (5, .int .i64 k), (6, .int .i64 l[k].length), (7, .int .i64 kk), (8, .int .i64 j)]) (fun g => match g with | j => j ≤ l[k][kk].length ∧ ∀ x ∈ l[k][kk].take j, itemOk x = true) (fun g => match g with | j => [.box b2 [.slice (some jd) ns.length jc] 34]) (fun g => match g with | j => fun w => (((kNode.Row w (some jd) ns ∧ kParts.Row w (some ad) l) ∧ Cells w (ad.add (k * 1)) [.slice (some ad6) l[k].length c6] ∧ (Kn.slice kItem).Row w (some ad6) l[k]) ∧ Cells w (jd.add (k * 10)) (nodeCells ns[k] ((A2, c2), (A4, c4))) ∧ kInt.Row w A2 ns[k].ins ∧ kExpr.Row w A4 ns[k].e.l) ∧ Cells w (ad6.add (kk * 1)) [.slice A9 l[k][kk].length c9] ∧ kItem.Row w A9 l[k][kk]) (fun g => match g with | j => l[k][kk].length - j) 0 ⟨rfl, rfl, rfl, rfl, rfl, rfl, rfl, trivial⟩ ⟨Nat.zero_le _, by simp⟩ (fun w hw => hw) ?_
              rintro j ⟨hj0, hx⟩
              dsimp only
              refine Wc.seq ?_
              refine Wc.seq ?_
              refine Wc.region ?_
              refine Wl.move rfl rfl ?_
              refine Wl.move rfl rfl ?_
              refine Wl.move rfl rfl ?_
              refine Wl.idx Tryz.underlying38 t36 rfl rfl rfl hk2 ?_
              refine Wl.loadr (j := 0) (cs := [.slice (some ad6) l[k].length c6]) t36 (fun w h => h.1.1.2.1) rfl rfl (Addr.add_zero' _).symm rfl ?_
              refine Wl.move rfl rfl ?_
              refine Wl.idx Tryz.underlying36 t22 rfl rfl rfl hkk1 ?_
              refine Wl.loadr (j := 0) (cs := [.slice A9 l[k][kk].length c9]) t22 (fun w h => h.2.1) rfl rfl (Addr.add_zero' _).symm rfl ?_
              refine Wl.len Tryz.underlying22 rfl rfl ?_
              refine Wl.lss rfl rfl rfl ?_
              refine Wl.nil ?_
              refine Wx.then_n ?_
              refine Wc.condp rfl (fun h67 => ?_) (fun h67 => ?_)
              ·
                have hj : j < l[k][kk].length := by omega
                refine Wc.pure (p := ∃ ad, A9 = some ad) (fun w hw => hw.addr (fun w h => h.2.2) (by omega)) ?_
                rintro ⟨ad9, rfl⟩
                refine Wc.skip ?_
                refine Wx.then_n ?_
                refine Wc.seq ?_
                refine Wc.block ?_
                refine Wc.seq ?_
                refine Wc.region ?_
                refine Wl.move rfl rfl ?_
                refine Wl.move rfl rfl ?_
                refine Wl.idx Tryz.underlying38 t36 rfl rfl rfl hk2 ?_
                refine Wl.loadr (j := 0) (cs := [.slice (some ad6) l[k].length c6]) t36 (fun w h => h.1.1.2.1) rfl rfl (Addr.add_zero' _).symm rfl ?_
                refine Wl.move rfl rfl ?_
                refine Wl.idx Tryz.underlying36 t22 rfl rfl rfl hkk1 ?_
                refine Wl.loadr (j := 0) (cs := [.slice (some ad9) l[k][kk].length c9]) t22 (fun w h => h.2.1) rfl rfl (Addr.add_zero' _).symm rfl ?_
                refine Wl.move rfl rfl ?_
                refine Wl.idx Tryz.underlying22 t100 rfl rfl rfl hj ?_
                refine Wl.loadrw (cs := eItem l[k][kk][j]) t100 (fun w h => h.2.2.cells j hj) rfl rfl rfl ?_
                refine Wl.alloc t100 rfl rfl (fun b9 => ?_)
                refine Wl.storew 1 t100 rfl rfl rfl rfl rfl rfl rfl ?_
                refine Wl.nil ?_
                refine Wx.then_n ?_
                refine Wc.cutS (G := Bool) (fun g => match g with | b10 => [(1, .slice (some ad) l.length c), (2, .pointer (some ⟨b2, 0, none⟩)), (4, .int .i64 0), (5, .int .i64 k), (6, .int .i64 l[k].length), (7, .int .i64 kk), (8, .int .i64 j), (9, .pointer (some ⟨b9, 0, none⟩)), (10, .bool b10)]) (fun g => match g with | b10 => b10 = (decide (l[k][kk][j].kind = 1) && itemOk l[k][kk][j])) (fun g => match g with | b10 => [.box b2 [.slice (some jd) ns.length jc] 34, .box b9 (eItem l[k][kk][j]) 100]) (fun g => match g with | b10 => fun w => (((kNode.Row w (some jd) ns ∧ kParts.Row w (some ad) l) ∧ Cells w (ad.add (k * 1)) [.slice (some ad6) l[k].length c6] ∧ (Kn.slice kItem).Row w (some ad6) l[k]) ∧ Cells w (jd.add (k * 10)) (nodeCells ns[k] ((A2, c2), (A4, c4))) ∧ kInt.Row w A2 ns[k].ins ∧ kExpr.Row w A4 ns[k].e.l) ∧ Cells w (ad6.add (kk * 1)) [.slice (some ad9) l[k][kk].length c9] ∧ kItem.Row w (some ad9) l[k][kk]) ?_ ?_
                ·
                  refine Wc.region ?_
                  refine Wl.fld ⟨_, 0, none⟩ fl100_0 rfl rfl rfl ?_
                  refine Wl.loadb 1 0 t3 rfl rfl rfl rfl ?_
                  refine Wl.eql rfl rfl rfl ?_
                  refine Wl.move rfl rfl ?_
                  refine Wl.splitp 83 rfl (fun h83 => ?_) (fun h83 => ?_)
                  ·
                    refine Wl.fld ⟨_, 4, none⟩ fl100_2 rfl rfl rfl ?_
                    refine Wl.loadb 1 4 t2 rfl rfl rfl rfl ?_
                    refine Wl.eql rfl rfl rfl ?_
                    refine Wl.pick_t rfl rfl rfl ?_
                    refine Wl.move rfl rfl ?_
                    refine Wl.splitp 88 rfl (fun h88 => ?_) (fun h88 => ?_)
                    ·
                      refine Wl.fld ⟨_, 1, none⟩ fl100_1 rfl rfl rfl ?_
                      refine Wl.fld ⟨_, 2, none⟩ fl70_1 rfl rfl rfl ?_
                      refine Wl.loadb 1 2 t2 rfl rfl rfl rfl ?_
                      refine Wl.geq rfl rfl rfl ?_
                      refine Wl.pick_t rfl rfl rfl ?_
                      refine Wl.move rfl rfl ?_
                      refine Wl.splitp 94 rfl (fun h94 => ?_) (fun h94 => ?_)
                      ·
                        refine Wl.fld ⟨_, 1, none⟩ fl100_1 rfl rfl rfl ?_
                        refine Wl.fld ⟨_, 2, none⟩ fl70_1 rfl rfl rfl ?_
                        refine Wl.loadb 1 2 t2 rfl rfl rfl rfl ?_
                        refine Wl.leq rfl rfl rfl ?_
                        refine Wl.pick_t rfl rfl rfl ?_
                        refine Wl.assign rfl rfl ?_
                        refine Wl.nil ?_
                        exact Wx.metS _ ⟨rfl, rfl, rfl, rfl, rfl, rfl, rfl, rfl, rfl, trivial⟩ (by first | omega | (simp [itemOk, *]; done) | (simp_all [itemOk]; done)) (fun w hw => hw)
                      ·
                        refine Wl.skip rfl rfl ?_
                        refine Wl.skip rfl rfl ?_
                        refine Wl.skip rfl rfl ?_
                        refine Wl.skip rfl rfl ?_
                        refine Wl.pick_f rfl rfl rfl ?_
                        refine Wl.assign rfl rfl ?_
                        refine Wl.nil ?_
                        exact Wx.metS _ ⟨rfl, rfl, rfl, rfl, rfl, rfl, rfl, rfl, rfl, trivial⟩ (by first | omega | (simp [itemOk, *]; done) | (simp_all [itemOk]; done)) (fun w hw => hw)
                    ·
                      refine Wl.skip rfl rfl ?_
                      refine Wl.skip rfl rfl ?_
                      refine Wl.skip rfl rfl ?_
                      refine Wl.skip rfl rfl ?_
                      refine Wl.pick_f rfl rfl rfl ?_
                      refine Wl.move rfl rfl ?_
                      refine Wl.skip rfl rfl ?_
                      refine Wl.skip rfl rfl ?_
                      refine Wl.skip rfl rfl ?_
                      refine Wl.skip rfl rfl ?_
                      refine Wl.pick_f rfl rfl rfl ?_
                      refine Wl.assign rfl rfl ?_
                      refine Wl.nil ?_
                      exact Wx.metS _ ⟨rfl, rfl, rfl, rfl, rfl, rfl, rfl, rfl, rfl, trivial⟩ (by first | omega | (simp [itemOk, *]; done) | (simp_all [itemOk]; done)) (fun w hw => hw)
                  ·
                    refine Wl.skip rfl rfl ?_
                    refine Wl.skip rfl rfl ?_
                    refine Wl.skip rfl rfl ?_
                    refine Wl.pick_f rfl rfl rfl ?_
                    refine Wl.move rfl rfl ?_
                    refine Wl.skip rfl rfl ?_
                    refine Wl.skip rfl rfl ?_
                    refine Wl.skip rfl rfl ?_
                    refine Wl.skip rfl rfl ?_
                    refine Wl.pick_f rfl rfl rfl ?_
                    refine Wl.move rfl rfl ?_
                    refine Wl.skip rfl rfl ?_
                    refine Wl.skip rfl rfl ?_
                    refine Wl.skip rfl rfl ?_
                    refine Wl.skip rfl rfl ?_
                    refine Wl.pick_f rfl rfl rfl ?_
                    refine Wl.assign rfl rfl ?_
                    refine Wl.nil ?_
                    exact Wx.metS _ ⟨rfl, rfl, rfl, rfl, rfl, rfl, rfl, rfl, rfl, trivial⟩ (by first | omega | (simp [itemOk, *]; done) | (simp_all [itemOk]; done)) (fun w hw => hw)
                ·
                  rintro b10 hb10
                  dsimp only
                  refine Wc.cutS (G := Bool) (fun g => match g with | b11 => [(1, .slice (some ad) l.length c), (2, .pointer (some ⟨b2, 0, none⟩)), (4, .int .i64 0), (5, .int .i64 k), (6, .int .i64 l[k].length), (7, .int .i64 kk), (8, .int .i64 j), (9, .pointer (some ⟨b9, 0, none⟩)), (10, .bool b10), (11, .bool b11)]) (fun g => match g with | b11 => b11 = (decide (l[k][kk][j].kind = 2) && itemOk l[k][kk][j])) (fun g => match g with | b11 => [.box b2 [.slice (some jd) ns.length jc] 34, .box b9 (eItem l[k][kk][j]) 100]) (fun g => match g with | b11 => fun w => (((kNode.Row w (some jd) ns ∧ kParts.Row w (some ad) l) ∧ Cells w (ad.add (k * 1)) [.slice (some ad6) l[k].length c6] ∧ (Kn.slice kItem).Row w (some ad6) l[k]) ∧ Cells w (jd.add (k * 10)) (nodeCells ns[k] ((A2, c2), (A4, c4))) ∧ kInt.Row w A2 ns[k].ins ∧ kExpr.Row w A4 ns[k].e.l) ∧ Cells w (ad6.add (kk * 1)) [.slice (some ad9) l[k][kk].length c9] ∧ kItem.Row w (some ad9) l[k][kk]) ?_ ?_
                  ·
                    refine Wc.region ?_
                    refine Wl.fld ⟨_, 0, none⟩ fl100_0 rfl rfl rfl ?_
                    refine Wl.loadb 1 0 t3 rfl rfl rfl rfl ?_
                    refine Wl.eql rfl rfl rfl ?_
                    refine Wl.move rfl rfl ?_
                    refine Wl.splitp 103 rfl (fun h103 => ?_) (fun h103 => ?_)
                    ·
                      refine Wl.fld ⟨_, 1, none⟩ fl100_1 rfl rfl rfl ?_
                      refine Wl.loadbs 1 1 t70 rfl rfl rfl rfl rfl ?_
                      refine Wl.build (parts := []) [] [.int .i64 0, .int .i64 0, .int .i64 0] rfl rfl (fun w => run_build w _ _ _ (by kernel_rfl)) ?_
                      refine Wl.eqls l[k][kk][j].rcd (⟨0, 0, 0⟩ : Rec) eq70 rfl rfl rfl ?_
                      refine Wl.pick_t rfl rfl rfl ?_
                      refine Wl.move rfl rfl ?_
                      refine Wl.splitp 109 rfl (fun h109 => ?_) (fun h109 => ?_)
                      ·
                        refine Wl.fld ⟨_, 4, none⟩ fl100_2 rfl rfl rfl ?_
                        refine Wl.loadb 1 4 t2 rfl rfl rfl rfl ?_
                        refine Wl.eql rfl rfl rfl ?_
                        refine Wl.move rfl rfl ?_
                        refine Wl.splitp 113 rfl (fun h113 => ?_) (fun h113 => ?_)
                        ·
                          refine Wl.skip rfl rfl ?_
                          refine Wl.skip rfl rfl ?_
                          refine Wl.skip rfl rfl ?_
                          refine Wl.skip rfl rfl ?_
                          refine Wl.skip rfl rfl ?_
                          refine Wl.skip rfl rfl ?_
                          refine Wl.skip rfl rfl ?_
                          refine Wl.skip rfl rfl ?_
                          refine Wl.pick_t rfl rfl rfl ?_
                          refine Wl.pick_t rfl rfl rfl ?_
                          refine Wl.assign rfl rfl ?_
                          refine Wl.nil ?_
                          exact Wx.metS _ ⟨rfl, rfl, rfl, rfl, rfl, rfl, rfl, rfl, rfl, rfl, trivial⟩ (by first | omega | (simp [itemOk, *]; done) | (simp_all [itemOk]; done)) (fun w hw => hw)
                        ·
                          refine Wl.fld ⟨_, 4, none⟩ fl100_2 rfl rfl rfl ?_
                          refine Wl.loadb 1 4 t2 rfl rfl rfl rfl ?_
                          refine Wl.geq rfl rfl rfl ?_
                          refine Wl.move rfl rfl ?_
                          refine Wl.splitp 117 rfl (fun h117 => ?_) (fun h117 => ?_)
                          ·
                            refine Wl.fld ⟨_, 4, none⟩ fl100_2 rfl rfl rfl ?_
                            refine Wl.loadb 1 4 t2 rfl rfl rfl rfl ?_
                            refine Wl.leq rfl rfl rfl ?_
                            refine Wl.pick_t rfl rfl rfl ?_
                            refine Wl.pick_f rfl rfl rfl ?_
                            refine Wl.pick_t rfl rfl rfl ?_
                            refine Wl.assign rfl rfl ?_
                            refine Wl.nil ?_
                            exact Wx.metS _ ⟨rfl, rfl, rfl, rfl, rfl, rfl, rfl, rfl, rfl, rfl, trivial⟩ (by first | omega | (simp [itemOk, *]; done) | (simp_all [itemOk]; done)) (fun w hw => hw)
                          ·
                            refine Wl.skip rfl rfl ?_
                            refine Wl.skip rfl rfl ?_
                            refine Wl.skip rfl rfl ?_
                            refine Wl.pick_f rfl rfl rfl ?_
                            refine Wl.pick_f rfl rfl rfl ?_
                            refine Wl.pick_t rfl rfl rfl ?_
                            refine Wl.assign rfl rfl ?_
                            refine Wl.nil ?_
                            exact Wx.metS _ ⟨rfl, rfl, rfl, rfl, rfl, rfl, rfl, rfl, rfl, rfl, trivial⟩ (by first | omega | (simp [itemOk, *]; done) | (simp_all [itemOk]; done)) (fun w hw => hw)
                      ·
                        refine Wl.skip rfl rfl ?_
                        refine Wl.skip rfl rfl ?_
                        refine Wl.skip rfl rfl ?_
                        refine Wl.skip rfl rfl ?_
                        refine Wl.skip rfl rfl ?_
                        refine Wl.skip rfl rfl ?_
                        refine Wl.skip rfl rfl ?_
                        refine Wl.skip rfl rfl ?_
                        refine Wl.skip rfl rfl ?_
                        refine Wl.skip rfl rfl ?_
                        refine Wl.skip rfl rfl ?_
                        refine Wl.skip rfl rfl ?_
                        refine Wl.skip rfl rfl ?_
                        refine Wl.pick_f rfl rfl rfl ?_
                        refine Wl.assign rfl rfl ?_
                        refine Wl.nil ?_
                        exact Wx.metS _ ⟨rfl, rfl, rfl, rfl, rfl, rfl, rfl, rfl, rfl, rfl, trivial⟩ (by first | omega | (simp [itemOk, *]; done) | (simp_all [itemOk]; done)) (fun w hw => hw)
                    ·
                      refine Wl.skip rfl rfl ?_
                      refine Wl.skip rfl rfl ?_
                      refine Wl.skip rfl rfl ?_
                      refine Wl.skip rfl rfl ?_
                      refine Wl.pick_f rfl rfl rfl ?_
                      refine Wl.move rfl rfl ?_
                      refine Wl.skip rfl rfl ?_
                      refine Wl.skip rfl rfl ?_
                      refine Wl.skip rfl rfl ?_
                      refine Wl.skip rfl rfl ?_
                      refine Wl.skip rfl rfl ?_
                      refine Wl.skip rfl rfl ?_
                      refine Wl.skip rfl rfl ?_
                      refine Wl.skip rfl rfl ?_
                      refine Wl.skip rfl rfl ?_
                      refine Wl.skip rfl rfl ?_
                      refine Wl.skip rfl rfl ?_
                      refine Wl.skip rfl rfl ?_
                      refine Wl.skip rfl rfl ?_
                      refine Wl.pick_f rfl rfl rfl ?_
                      refine Wl.assign rfl rfl ?_
                      refine Wl.nil ?_
                      exact Wx.metS _ ⟨rfl, rfl, rfl, rfl, rfl, rfl, rfl, rfl, rfl, rfl, trivial⟩ (by first | omega | (simp [itemOk, *]; done) | (simp_all [itemOk]; done)) (fun w hw => hw)
                  ·
                    rintro b11 hb11
                    dsimp only
                    refine Wc.seq ?_
                    refine Wc.region ?_
                    refine Wl.move rfl rfl ?_
                    refine Wl.not rfl rfl ?_
                    refine Wl.move rfl rfl ?_
                    refine Wl.split 126 rfl (fun h126 => ?_) (fun h126 => ?_)
                    ·
                      refine Wl.move rfl rfl ?_
                      refine Wl.not rfl rfl ?_
                      refine Wl.pick_t rfl rfl rfl ?_
                      refine Wl.nil ?_
                      refine Wx.then_n ?_
                      refine Wc.cond rfl (fun h129 => ?_) (fun h129 => ?_)
                      ·
                        refine Wc.seq ?_
                        refine Wc.region ?_
                        refine Wl.assign rfl rfl ?_
                        refine Wl.nil ?_
                        refine Wx.then_n ?_
                        refine Wc.ret ?_
                        refine Wx.block_r ?_
                        refine Wx.then_r ?_
                        refine Wx.then_r ?_
                        refine Wx.block_r ?_
                        refine Wx.block_r ?_
                        refine Wx.then_r ?_
                        refine Wx.then_r ?_
                        refine Wx.block_r ?_
                        refine Wx.block_r ?_
                        refine Wx.then_r ?_
                        refine Wx.then_r ?_
                        refine Wx.block_r ?_
                        refine Wx.then_r ?_
                        exact Wx.retI rfl rfl (logsErr_bad k hk hk2 (partsOk_bad kk hkk1 (partOk_bad j hj (by rw [itemOk_split, ← hb10, ← hb11, show b10 = false by simpa using h126, show b11 = false by simpa using h129]; rfl)))).symm
                      ·
                        refine Wc.skip ?_
                        refine Wx.block_n ?_
                        refine Wx.then_n ?_
                        refine Wc.region ?_
                        refine Wl.move rfl rfl ?_
                        refine Wl.add rfl rfl rfl (by omega) ?_
                        refine Wl.assign rfl rfl ?_
                        refine Wl.nil ?_
                        exact Wx.againS (j + 1) (by omega) ⟨rfl, rfl, rfl, rfl, rfl, rfl, rfl, trivial⟩ ⟨hj, forall_take hj hx (by rw [itemOk_split, ← hb10, ← hb11, show b11 = true by simpa using h129]; simp)⟩ (fun w hw => hw.take 1)
                    ·
                      refine Wl.skip rfl rfl ?_
                      refine Wl.skip rfl rfl ?_
                      refine Wl.pick_f rfl rfl rfl ?_
                      refine Wl.nil ?_
                      refine Wx.then_n ?_
                      refine Wc.cond rfl (fun h129 => ?_) (fun h129 => ?_)
                      ·
                        refine Wc.seq ?_
                        refine Wc.region ?_
                        refine Wl.assign rfl rfl ?_
                        refine Wl.nil ?_
                        refine Wx.then_n ?_
                        refine Wc.ret ?_
                        refine Wx.block_r ?_
                        refine Wx.then_r ?_
                        refine Wx.then_r ?_
                        refine Wx.block_r ?_
                        refine Wx.block_r ?_
                        refine Wx.then_r ?_
                        refine Wx.then_r ?_
                        refine Wx.block_r ?_
                        refine Wx.block_r ?_
                        refine Wx.then_r ?_
                        refine Wx.then_r ?_
                        refine Wx.block_r ?_
                        refine Wx.then_r ?_
                        cases h129
                      ·
                        refine Wc.skip ?_
                        refine Wx.block_n ?_
                        refine Wx.then_n ?_
                        refine Wc.region ?_
                        refine Wl.move rfl rfl ?_
                        refine Wl.add rfl rfl rfl (by omega) ?_
                        refine Wl.assign rfl rfl ?_
                        refine Wl.nil ?_
                        exact Wx.againS (j + 1) (by omega) ⟨rfl, rfl, rfl, rfl, rfl, rfl, rfl, trivial⟩ ⟨hj, forall_take hj hx (by rw [itemOk_split, ← hb10, ← hb11, show b10 = true by simpa using h126]; simp)⟩ (fun w hw => hw.take 1)
              ·
                obtain rfl : j = l[k][kk].length := by omega
                refine Wc.exit ?_
                refine Wx.then_e ?_
                refine Wx.then_e ?_
                refine Wx.block_e ?_
                refine Wx.block_n ?_
                refine Wx.then_n ?_
                refine Wc.region ?_
                refine Wl.move rfl rfl ?_
                refine Wl.add rfl rfl rfl (by omega) ?_
                refine Wl.assign rfl rfl ?_
                refine Wl.nil ?_
                exact Wx.againS (kk + 1) (by omega) ⟨rfl, rfl, rfl, rfl, rfl, rfl, trivial⟩ ⟨hkk1, forall_take hkk1 hpo (partOk_all h57 hx)⟩ (fun w hw => hw.imp fun w h => h.1)
          ·
            obtain rfl : kk = l[k].length := by omega
            refine Wc.exit ?_
            refine Wx.then_e ?_
            refine Wx.then_e ?_
            refine Wx.block_e ?_
            refine Wx.block_n ?_
            refine Wx.then_n ?_
            refine Wc.region ?_
            refine Wl.move rfl rfl ?_
            refine Wl.add rfl rfl rfl (by omega) ?_
            refine Wl.assign rfl rfl ?_
            refine Wl.nil ?_
            exact Wx.againS (k + 1) (by omega) ⟨rfl, rfl, rfl, rfl, trivial⟩ ⟨hk, zip_take hk hk2 he (partsOk_all hwant hpo)⟩ (fun w hw => hw.imp fun w h => h.1.1)
    ·
      obtain rfl : k = ns.length := by omega
      refine Wc.exit ?_
      refine Wx.then_e ?_
      refine Wx.then_e ?_
      refine Wx.block_e ?_
      refine Wx.then_n ?_
      refine Wc.seq ?_
      refine Wc.region ?_
      refine Wl.assign rfl rfl ?_
      refine Wl.nil ?_
      refine Wx.then_n ?_
      refine Wc.ret ?_
      exact Wx.retI rfl rfl (logsErr_ok hll he).symm

end Go.Proofs.YtkffjbijamfnoaaGreat
