/-
  What comes out of all nodes.
-/
import Derived.Test.YtkffjbijamfnoaaGreatWork2
set_option linter.unusedVariables false
set_option linter.unusedSimpArgs false
namespace Go.Proofs.YtkffjbijamfnoaaGreat
open Go.RowKit

def recs1 (l : List Item) : List Rec := (l.filter (fun x => decide (x.kind = 1))).map (·.rcd)
theorem recs1_take (l : List Item) (k : Nat) (hk : k < l.length) : recs1 (l.take (k + 1)) = recs1 (l.take k) ++ (if l[k].kind = 1 then [l[k].rcd] else []) := by
  unfold recs1
  rw [List.take_succ_eq_append_getElem hk, List.filter_append, List.map_append]
  congr 1
  by_cases h : l[k].kind = 1 <;> simp [h]
theorem recs1_len (l : List Item) : (recs1 l).length ≤ l.length := by unfold recs1; rw [List.length_map]; exact List.length_filter_le _ _
def runTo (ns : List Node) (l : Logs) (offs : List (List Int)) (mk : Int → Int) (k : Nat) : List (List Rec × List Pane) := goF (nodeStep ns l offs mk) ((order ns).take k) (List.replicate ns.length ([], []))
theorem runTo_zero (ns : List Node) (l : Logs) (offs : List (List Int)) (mk : Int → Int) : runTo ns l offs mk 0 = List.replicate ns.length ([], []) := rfl
theorem runTo_len (ns : List Node) (l : Logs) (offs : List (List Int)) (mk : Int → Int) (k : Nat) : (runTo ns l offs mk k).length = ns.length := by unfold runTo; rw [goF_length, List.length_replicate]
theorem runTo_last (ns : List Node) (l : Logs) (offs : List (List Int)) (mk : Int → Int) : runTo ns l offs mk (order ns).length = runAll ns l offs mk := by unfold runTo runAll; rw [List.take_length]
theorem runTo_succ {ns : List Node} (l : Logs) (offs : List (List Int)) (mk : Int → Int) (k : Nat) (hk : k < (order ns).length) (q : Nat) (hq : q < ns.length) (e : (order ns)[k] = q) :
    runTo ns l offs mk (k + 1) = (runTo ns l offs mk k).set q (sortR (workOf ns[q] (inOf ns l offs (runTo ns l offs mk k) q) (mk q)).1, (workOf ns[q] (inOf ns l offs (runTo ns l offs mk k) q) (mk q)).2) := by
  unfold runTo
  rw [List.take_succ_eq_append_getElem hk, goF_append, goF, goF, e]
  congr 1
  unfold nodeStep
  rw [Int.toNat_natCast, List.getElem?_eq_getElem hq]; rfl
theorem inOf_nat {ns : List Node} {l : Logs} {offs : List (List Int)} {st : List (List Rec × List Pane)} (q : Nat) (hq : q < ns.length) (hq2 : q < l.length) : inOf ns l offs st q = recsOf (readOf offs q l[q]) ++ ns[q].ins.flatMap (outAt st) := by
  unfold inOf insOf
  rw [Int.toNat_natCast, List.getElem?_eq_getElem hq, List.getElem?_eq_getElem hq2]; rfl
theorem runTo_fine {ns : List Node} {l : Logs} {offs : List (List Int)} {mk : Int → Int} (h : jobErr ns = 0) (hl : logsErr ns l = 0) (k : Nat) (hk : k < (order ns).length) (q : Nat) (e : (order ns)[k] = q) : FineIn (inOf ns l offs (runTo ns l offs mk k) q) := by
  have h1 := run_fine (offs := offs) (mk := mk) h hl k hk
  rw [← inOf_turn k hk, e] at h1
  exact h1
theorem outAt_map {st : List (List Rec × List Pane)} (r : Nat) (hr : r < st.length) (h2 : r < (st.map (·.1)).length) : (st.map (·.1))[r] = outAt st r := by
  unfold outAt
  rw [Int.toNat_natCast, List.getElem?_eq_getElem hr, List.getElem_map]; rfl
theorem flatMap_part {α β : Type} (f : α → List β) (l : List α) (k : Nat) : ((l.take k).flatMap f).length ≤ (l.flatMap f).length := by
  conv => rhs; rw [← List.take_append_drop k l, List.flatMap_append, List.length_append]
  omega
theorem flatMap_take {α β : Type} (f : α → List β) (l : List α) (k : Nat) (hk : k < l.length) : (l.take (k + 1)).flatMap f = (l.take k).flatMap f ++ f l[k] := by
  rw [List.take_succ_eq_append_getElem hk, List.flatMap_append, List.flatMap_singleton]
theorem readOf_at (offs : List (List Int)) (q p : Nat) (ps : List (List Item)) (hp : p < ps.length) (h2 : p < (readOf offs q ps).length) : (readOf offs q ps)[p] = readPart offs q p ps[p] := by simp [readOf]
def mkOf (mks : List (List Int)) (i : Int) : Int := minL ((mks[i.toNat]?).getD [])
theorem mkOf_nat (mks : List (List Int)) (q : Nat) (hq : q < mks.length) : mkOf mks q = minL mks[q] := by unfold mkOf; rw [Int.toNat_natCast, List.getElem?_eq_getElem hq]; rfl

theorem all_calls (m : Nat → Prop) (J A O M : Option Addr) (jc c oc mc : Nat) (ns : List Node) (l : Logs) (offs mks : List (List Int)) (w : World) (hr : Ro m w (fun w => kNode.Row w J ns ∧ kParts.Row w A l ∧ (Kn.slice kInt).Row w O offs ∧ (Kn.slice kInt).Row w M mks)) (hjc : ns.length ≤ jc) (hc : l.length ≤ c) (hmc : mks.length ≤ mc) (hs : ∀ x ∈ ns, x.e.count ≤ 1099511627776) (hj : jobErr ns = 0) (hl : logsErr ns l = 0) (hm : mks.length = ns.length) (hm1 : ∀ k ∈ mks, 0 < k.length ∧ k.length ≤ 4294967296) :
    Calls Tryz.prog 82 #[.agg #[.slice J ns.length jc], .slice A l.length c, .slice O offs.length oc, .slice M mks.length mc] w (Post m w (fun g : (Option Addr × Nat) × (Option Addr × Nat) => .agg #[.slice g.1.1 ns.length g.1.2, .slice g.2.1 ns.length g.2.2]) (fun g => ns.length ≤ g.1.2 ∧ ns.length ≤ g.2.2) (fun _ => []) (fun g w => (Kn.slice kRec).Row w g.1.1 ((runAll ns l offs (mkOf mks)).map (·.1)) ∧ (Kn.slice kPane).Row w g.2.1 ((runAll ns l offs (mkOf mks)).map (·.2)))) := by
  obtain ⟨⟨hn1, hn12⟩, hz, hol, hwt⟩ := job_facts hj
  obtain ⟨hom, _⟩ := order_mem ns
  obtain ⟨hll, hlp⟩ := logs_facts hl
  refine calls_of_Wc (args := [.agg #[.slice J ns.length jc], .slice A l.length c, .slice O offs.length oc, .slice M mks.length mc]) 110 Tryz.func82 rfl rfl (by simp) ?_
  refine Wc.start hr ?_
  refine Wc.seq ?_
  refine Wc.region ?_
  refine Wl.box rfl rfl rfl (fun b4 => ?_)
  refine Wl.alloc t149 rfl rfl (fun b8 => ?_)
  refine Wl.nil ?_
  refine Wx.then_n ?_
  refine Wc.cutS (G := (Option Addr × Nat) × (Option Addr × Nat) × Nat) (fun g => match g with | ⟨⟨A24, c24⟩, ⟨A28, c28⟩, b9⟩ => [(1, .slice A l.length c), (2, .slice O offs.length oc), (3, .slice M mks.length mc), (4, .pointer (some ⟨b4, 0, none⟩)), (8, .pointer (some ⟨b8, 0, none⟩)), (9, .pointer (some ⟨b9, 0, none⟩))]) (fun g => match g with | ⟨⟨A24, c24⟩, ⟨A28, c28⟩, b9⟩ => ns.length ≤ c24 ∧ ns.length ≤ c28 ∧ (∃ g, A24 = some ⟨g, 0, none⟩) ∧ (∃ g, A28 = some ⟨g, 0, none⟩)) (fun g => match g with | ⟨⟨A24, c24⟩, ⟨A28, c28⟩, b9⟩ => [.box b4 [.slice J ns.length jc] 34, .box b8 [.slice none 0 0, .slice none 0 0] 149, .box b9 [.slice A24 ns.length c24, .slice A28 ns.length c28] 149, rowOf eSl (.slice A24 ns.length c24) 59 1 (List.replicate ns.length ((none, 0, 0) : Sl)), rowOf eSl (.slice A28 ns.length c28) 53 1 (List.replicate ns.length ((none, 0, 0) : Sl))]) (fun g => match g with | ⟨⟨A24, c24⟩, ⟨A28, c28⟩, b9⟩ => fun w => (kNode.Row w J ns ∧ kParts.Row w A l ∧ (Kn.slice kInt).Row w O offs ∧ (Kn.slice kInt).Row w M mks)) ?_ ?_
  ·
    refine Wany.start (St w (fun _ => False) m [.box b4 [.slice J ns.length jc] 34, .box b8 [.slice none 0 0, .slice none 0 0] 149] (fun _ => True)) mixed (fun w hw => hw.drew) ?_
    refine Wany.take (f := 5) [0, 1, 2, 4, 5, 6] (fun w hw => (hw.take 2).imp fun _ _ => trivial) (by kernel_rfl) ?_
    refine Wl.fld ⟨_, 0, none⟩ fl34_0 rfl rfl rfl ?_
    refine Wl.loadb 0 0 t32 rfl rfl rfl rfl ?_
    refine Wl.len Tryz.underlying32 rfl rfl ?_
    refine Wl.fld ⟨_, 0, none⟩ fl34_0 rfl rfl rfl ?_
    refine Wl.loadb 0 0 t32 rfl rfl rfl rfl ?_
    refine Wl.len Tryz.underlying32 rfl rfl ?_
    refine Wl.nilh ?_
    refine Wany.eff3 (f := 4) 3 7 9 rfl rfl rfl (by kernel_rfl) ?_ ?_ ?_
    ·
      refine Wl.mk (enc := eSl) ((none, 0, 0) : Sl) Tryz.underlying82 t59 rfl rfl rfl rfl rfl (by omega) (by omega) (fun v24 => ?_)
      first | refine Wl.form (v := v24) 2 rfl (fun A24 c24 e24 hc24 hA24 => ?_) | refine Wl.form (v := v24) 3 rfl (fun A24 c24 e24 hc24 hA24 => ?_) | refine Wl.form (v := v24) 4 rfl (fun A24 c24 e24 hc24 hA24 => ?_)
      rw [List.length_replicate] at e24 hc24 hA24
      subst e24
      refine Wl.nile (fun w hw => (hw.take 2).imp fun _ _ => trivial) ?_
      refine Wany.eff2 (f := 3) 7 9 rfl rfl (by kernel_rfl) ?_ ?_
      ·
        refine Wl.mk (enc := eSl) ((none, 0, 0) : Sl) Tryz.underlying86 t53 rfl rfl rfl rfl rfl (by omega) (by omega) (fun v28 => ?_)
        first | refine Wl.form (v := v28) 2 rfl (fun A28 c28 e28 hc28 hA28 => ?_) | refine Wl.form (v := v28) 3 rfl (fun A28 c28 e28 hc28 hA28 => ?_) | refine Wl.form (v := v28) 4 rfl (fun A28 c28 e28 hc28 hA28 => ?_)
        rw [List.length_replicate] at e28 hc28 hA28
        subst e28
        refine Wl.nile (fun w hw => (hw.take 2).imp fun _ _ => trivial) ?_
        refine Wany.take (f := 2) [8] (fun w hw => (hw.take 2).imp fun _ _ => trivial) (by kernel_rfl) ?_
        refine Wl.build (parts := _) [(0, _), (1, _)] [.slice A24 ns.length c24, .slice A28 ns.length c28] rfl rfl (fun w => run_build w _ _ _ (by kernel_rfl)) ?_
        refine Wl.nilh ?_
        refine Wany.eff (f := 1) 9 rfl (by kernel_rfl) ?_
        refine Wl.alloc t149 rfl rfl (fun b9 => ?_)
        refine Wl.nile (fun w hw => (hw.take 2).imp fun _ _ => trivial) ?_
        refine Wany.eff (f := 0) 10 rfl (by kernel_rfl) ?_
        refine Wl.storew 4 t149 rfl rfl rfl rfl rfl rfl rfl ?_
        refine Wl.nile (fun w hw => (hw.take 2).imp fun _ _ => trivial) ?_
        refine Wany.done (by kernel_rfl) ?_
        refine Wx.metS ⟨⟨A24, c24⟩, ⟨A28, c28⟩, b9⟩ ⟨rfl, rfl, rfl, rfl, rfl, rfl, trivial⟩ ⟨hc24, hc28, hA24 (by omega), hA28 (by omega)⟩ (fun w hw => ?_)
        first | exact hw.perm (.cons _ (.cons _ (List.Perm.refl _))) | exact hw.perm (.cons _ (.cons _ (List.Perm.swap _ _ _))) | exact hw.perm (.cons _ (.cons _ (.cons _ (.swap _ _ _)))) | exact hw.perm (.cons _ (.cons _ ((List.Perm.swap _ _ _).trans (.cons _ (.swap _ _ _))))) | exact hw.perm (.cons _ (.cons _ ((List.Perm.cons _ (.swap _ _ _)).trans (.swap _ _ _)))) | exact hw.perm (.cons _ (.cons _ ((List.Perm.swap _ _ _).trans ((List.Perm.cons _ (.swap _ _ _)).trans (.swap _ _ _)))))
      ·
        refine Wl.alloc t149 rfl rfl (fun b9 => ?_)
        refine Wl.nile (fun w hw => (hw.take 2).imp fun _ _ => trivial) ?_
        refine Wany.eff (f := 2) 7 rfl (by kernel_rfl) ?_
        refine Wl.mk (enc := eSl) ((none, 0, 0) : Sl) Tryz.underlying86 t53 rfl rfl rfl rfl rfl (by omega) (by omega) (fun v28 => ?_)
        first | refine Wl.form (v := v28) 2 rfl (fun A28 c28 e28 hc28 hA28 => ?_) | refine Wl.form (v := v28) 3 rfl (fun A28 c28 e28 hc28 hA28 => ?_) | refine Wl.form (v := v28) 4 rfl (fun A28 c28 e28 hc28 hA28 => ?_)
        rw [List.length_replicate] at e28 hc28 hA28
        subst e28
        refine Wl.nile (fun w hw => (hw.take 2).imp fun _ _ => trivial) ?_
        refine Wany.take (f := 1) [8] (fun w hw => (hw.take 2).imp fun _ _ => trivial) (by kernel_rfl) ?_
        refine Wl.build (parts := _) [(0, _), (1, _)] [.slice A24 ns.length c24, .slice A28 ns.length c28] rfl rfl (fun w => run_build w _ _ _ (by kernel_rfl)) ?_
        refine Wl.nilh ?_
        refine Wany.eff (f := 0) 10 rfl (by kernel_rfl) ?_
        refine Wl.storew 3 t149 rfl rfl rfl rfl rfl rfl rfl ?_
        refine Wl.nile (fun w hw => (hw.take 2).imp fun _ _ => trivial) ?_
        refine Wany.done (by kernel_rfl) ?_
        refine Wx.metS ⟨⟨A24, c24⟩, ⟨A28, c28⟩, b9⟩ ⟨rfl, rfl, rfl, rfl, rfl, rfl, trivial⟩ ⟨hc24, hc28, hA24 (by omega), hA28 (by omega)⟩ (fun w hw => ?_)
        first | exact hw.perm (.cons _ (.cons _ (List.Perm.refl _))) | exact hw.perm (.cons _ (.cons _ (List.Perm.swap _ _ _))) | exact hw.perm (.cons _ (.cons _ (.cons _ (.swap _ _ _)))) | exact hw.perm (.cons _ (.cons _ ((List.Perm.swap _ _ _).trans (.cons _ (.swap _ _ _))))) | exact hw.perm (.cons _ (.cons _ ((List.Perm.cons _ (.swap _ _ _)).trans (.swap _ _ _)))) | exact hw.perm (.cons _ (.cons _ ((List.Perm.swap _ _ _).trans ((List.Perm.cons _ (.swap _ _ _)).trans (.swap _ _ _)))))
    ·
      refine Wl.mk (enc := eSl) ((none, 0, 0) : Sl) Tryz.underlying86 t53 rfl rfl rfl rfl rfl (by omega) (by omega) (fun v28 => ?_)
      first | refine Wl.form (v := v28) 2 rfl (fun A28 c28 e28 hc28 hA28 => ?_) | refine Wl.form (v := v28) 3 rfl (fun A28 c28 e28 hc28 hA28 => ?_) | refine Wl.form (v := v28) 4 rfl (fun A28 c28 e28 hc28 hA28 => ?_)
      rw [List.length_replicate] at e28 hc28 hA28
      subst e28
      refine Wl.nile (fun w hw => (hw.take 2).imp fun _ _ => trivial) ?_
      refine Wany.eff2 (f := 3) 3 9 rfl rfl (by kernel_rfl) ?_ ?_
      ·
        refine Wl.mk (enc := eSl) ((none, 0, 0) : Sl) Tryz.underlying82 t59 rfl rfl rfl rfl rfl (by omega) (by omega) (fun v24 => ?_)
        first | refine Wl.form (v := v24) 2 rfl (fun A24 c24 e24 hc24 hA24 => ?_) | refine Wl.form (v := v24) 3 rfl (fun A24 c24 e24 hc24 hA24 => ?_) | refine Wl.form (v := v24) 4 rfl (fun A24 c24 e24 hc24 hA24 => ?_)
        rw [List.length_replicate] at e24 hc24 hA24
        subst e24
        refine Wl.nile (fun w hw => (hw.take 2).imp fun _ _ => trivial) ?_
        refine Wany.take (f := 2) [8] (fun w hw => (hw.take 2).imp fun _ _ => trivial) (by kernel_rfl) ?_
        refine Wl.build (parts := _) [(0, _), (1, _)] [.slice A24 ns.length c24, .slice A28 ns.length c28] rfl rfl (fun w => run_build w _ _ _ (by kernel_rfl)) ?_
        refine Wl.nilh ?_
        refine Wany.eff (f := 1) 9 rfl (by kernel_rfl) ?_
        refine Wl.alloc t149 rfl rfl (fun b9 => ?_)
        refine Wl.nile (fun w hw => (hw.take 2).imp fun _ _ => trivial) ?_
        refine Wany.eff (f := 0) 10 rfl (by kernel_rfl) ?_
        refine Wl.storew 4 t149 rfl rfl rfl rfl rfl rfl rfl ?_
        refine Wl.nile (fun w hw => (hw.take 2).imp fun _ _ => trivial) ?_
        refine Wany.done (by kernel_rfl) ?_
        refine Wx.metS ⟨⟨A24, c24⟩, ⟨A28, c28⟩, b9⟩ ⟨rfl, rfl, rfl, rfl, rfl, rfl, trivial⟩ ⟨hc24, hc28, hA24 (by omega), hA28 (by omega)⟩ (fun w hw => ?_)
        first | exact hw.perm (.cons _ (.cons _ (List.Perm.refl _))) | exact hw.perm (.cons _ (.cons _ (List.Perm.swap _ _ _))) | exact hw.perm (.cons _ (.cons _ (.cons _ (.swap _ _ _)))) | exact hw.perm (.cons _ (.cons _ ((List.Perm.swap _ _ _).trans (.cons _ (.swap _ _ _))))) | exact hw.perm (.cons _ (.cons _ ((List.Perm.cons _ (.swap _ _ _)).trans (.swap _ _ _)))) | exact hw.perm (.cons _ (.cons _ ((List.Perm.swap _ _ _).trans ((List.Perm.cons _ (.swap _ _ _)).trans (.swap _ _ _)))))
      ·
        refine Wl.alloc t149 rfl rfl (fun b9 => ?_)
        refine Wl.nile (fun w hw => (hw.take 2).imp fun _ _ => trivial) ?_
        refine Wany.eff (f := 2) 3 rfl (by kernel_rfl) ?_
        refine Wl.mk (enc := eSl) ((none, 0, 0) : Sl) Tryz.underlying82 t59 rfl rfl rfl rfl rfl (by omega) (by omega) (fun v24 => ?_)
        first | refine Wl.form (v := v24) 2 rfl (fun A24 c24 e24 hc24 hA24 => ?_) | refine Wl.form (v := v24) 3 rfl (fun A24 c24 e24 hc24 hA24 => ?_) | refine Wl.form (v := v24) 4 rfl (fun A24 c24 e24 hc24 hA24 => ?_)
        rw [List.length_replicate] at e24 hc24 hA24
        subst e24
        refine Wl.nile (fun w hw => (hw.take 2).imp fun _ _ => trivial) ?_
        refine Wany.take (f := 1) [8] (fun w hw => (hw.take 2).imp fun _ _ => trivial) (by kernel_rfl) ?_
        refine Wl.build (parts := _) [(0, _), (1, _)] [.slice A24 ns.length c24, .slice A28 ns.length c28] rfl rfl (fun w => run_build w _ _ _ (by kernel_rfl)) ?_
        refine Wl.nilh ?_
        refine Wany.eff (f := 0) 10 rfl (by kernel_rfl) ?_
        refine Wl.storew 3 t149 rfl rfl rfl rfl rfl rfl rfl ?_
        refine Wl.nile (fun w hw => (hw.take 2).imp fun _ _ => trivial) ?_
        refine Wany.done (by kernel_rfl) ?_
        refine Wx.metS ⟨⟨A24, c24⟩, ⟨A28, c28⟩, b9⟩ ⟨rfl, rfl, rfl, rfl, rfl, rfl, trivial⟩ ⟨hc24, hc28, hA24 (by omega), hA28 (by omega)⟩ (fun w hw => ?_)
        first | exact hw.perm (.cons _ (.cons _ (List.Perm.refl _))) | exact hw.perm (.cons _ (.cons _ (List.Perm.swap _ _ _))) | exact hw.perm (.cons _ (.cons _ (.cons _ (.swap _ _ _)))) | exact hw.perm (.cons _ (.cons _ ((List.Perm.swap _ _ _).trans (.cons _ (.swap _ _ _))))) | exact hw.perm (.cons _ (.cons _ ((List.Perm.cons _ (.swap _ _ _)).trans (.swap _ _ _)))) | exact hw.perm (.cons _ (.cons _ ((List.Perm.swap _ _ _).trans ((List.Perm.cons _ (.swap _ _ _)).trans (.swap _ _ _)))))
    ·
      refine Wl.alloc t149 rfl rfl (fun b9 => ?_)
      refine Wl.nile (fun w hw => (hw.take 2).imp fun _ _ => trivial) ?_
      refine Wany.eff2 (f := 3) 3 7 rfl rfl (by kernel_rfl) ?_ ?_
      ·
        refine Wl.mk (enc := eSl) ((none, 0, 0) : Sl) Tryz.underlying82 t59 rfl rfl rfl rfl rfl (by omega) (by omega) (fun v24 => ?_)
        first | refine Wl.form (v := v24) 2 rfl (fun A24 c24 e24 hc24 hA24 => ?_) | refine Wl.form (v := v24) 3 rfl (fun A24 c24 e24 hc24 hA24 => ?_) | refine Wl.form (v := v24) 4 rfl (fun A24 c24 e24 hc24 hA24 => ?_)
        rw [List.length_replicate] at e24 hc24 hA24
        subst e24
        refine Wl.nile (fun w hw => (hw.take 2).imp fun _ _ => trivial) ?_
        refine Wany.eff (f := 2) 7 rfl (by kernel_rfl) ?_
        refine Wl.mk (enc := eSl) ((none, 0, 0) : Sl) Tryz.underlying86 t53 rfl rfl rfl rfl rfl (by omega) (by omega) (fun v28 => ?_)
        first | refine Wl.form (v := v28) 2 rfl (fun A28 c28 e28 hc28 hA28 => ?_) | refine Wl.form (v := v28) 3 rfl (fun A28 c28 e28 hc28 hA28 => ?_) | refine Wl.form (v := v28) 4 rfl (fun A28 c28 e28 hc28 hA28 => ?_)
        rw [List.length_replicate] at e28 hc28 hA28
        subst e28
        refine Wl.nile (fun w hw => (hw.take 2).imp fun _ _ => trivial) ?_
        refine Wany.take (f := 1) [8] (fun w hw => (hw.take 2).imp fun _ _ => trivial) (by kernel_rfl) ?_
        refine Wl.build (parts := _) [(0, _), (1, _)] [.slice A24 ns.length c24, .slice A28 ns.length c28] rfl rfl (fun w => run_build w _ _ _ (by kernel_rfl)) ?_
        refine Wl.nilh ?_
        refine Wany.eff (f := 0) 10 rfl (by kernel_rfl) ?_
        refine Wl.storew 2 t149 rfl rfl rfl rfl rfl rfl rfl ?_
        refine Wl.nile (fun w hw => (hw.take 2).imp fun _ _ => trivial) ?_
        refine Wany.done (by kernel_rfl) ?_
        refine Wx.metS ⟨⟨A24, c24⟩, ⟨A28, c28⟩, b9⟩ ⟨rfl, rfl, rfl, rfl, rfl, rfl, trivial⟩ ⟨hc24, hc28, hA24 (by omega), hA28 (by omega)⟩ (fun w hw => ?_)
        first | exact hw.perm (.cons _ (.cons _ (List.Perm.refl _))) | exact hw.perm (.cons _ (.cons _ (List.Perm.swap _ _ _))) | exact hw.perm (.cons _ (.cons _ (.cons _ (.swap _ _ _)))) | exact hw.perm (.cons _ (.cons _ ((List.Perm.swap _ _ _).trans (.cons _ (.swap _ _ _))))) | exact hw.perm (.cons _ (.cons _ ((List.Perm.cons _ (.swap _ _ _)).trans (.swap _ _ _)))) | exact hw.perm (.cons _ (.cons _ ((List.Perm.swap _ _ _).trans ((List.Perm.cons _ (.swap _ _ _)).trans (.swap _ _ _)))))
      ·
        refine Wl.mk (enc := eSl) ((none, 0, 0) : Sl) Tryz.underlying86 t53 rfl rfl rfl rfl rfl (by omega) (by omega) (fun v28 => ?_)
        first | refine Wl.form (v := v28) 2 rfl (fun A28 c28 e28 hc28 hA28 => ?_) | refine Wl.form (v := v28) 3 rfl (fun A28 c28 e28 hc28 hA28 => ?_) | refine Wl.form (v := v28) 4 rfl (fun A28 c28 e28 hc28 hA28 => ?_)
        rw [List.length_replicate] at e28 hc28 hA28
        subst e28
        refine Wl.nile (fun w hw => (hw.take 2).imp fun _ _ => trivial) ?_
        refine Wany.eff (f := 2) 3 rfl (by kernel_rfl) ?_
        refine Wl.mk (enc := eSl) ((none, 0, 0) : Sl) Tryz.underlying82 t59 rfl rfl rfl rfl rfl (by omega) (by omega) (fun v24 => ?_)
        first | refine Wl.form (v := v24) 2 rfl (fun A24 c24 e24 hc24 hA24 => ?_) | refine Wl.form (v := v24) 3 rfl (fun A24 c24 e24 hc24 hA24 => ?_) | refine Wl.form (v := v24) 4 rfl (fun A24 c24 e24 hc24 hA24 => ?_)
        rw [List.length_replicate] at e24 hc24 hA24
        subst e24
        refine Wl.nile (fun w hw => (hw.take 2).imp fun _ _ => trivial) ?_
        refine Wany.take (f := 1) [8] (fun w hw => (hw.take 2).imp fun _ _ => trivial) (by kernel_rfl) ?_
        refine Wl.build (parts := _) [(0, _), (1, _)] [.slice A24 ns.length c24, .slice A28 ns.length c28] rfl rfl (fun w => run_build w _ _ _ (by kernel_rfl)) ?_
        refine Wl.nilh ?_
        refine Wany.eff (f := 0) 10 rfl (by kernel_rfl) ?_
        refine Wl.storew 2 t149 rfl rfl rfl rfl rfl rfl rfl ?_
        refine Wl.nile (fun w hw => (hw.take 2).imp fun _ _ => trivial) ?_
        refine Wany.done (by kernel_rfl) ?_
        refine Wx.metS ⟨⟨A24, c24⟩, ⟨A28, c28⟩, b9⟩ ⟨rfl, rfl, rfl, rfl, rfl, rfl, trivial⟩ ⟨hc24, hc28, hA24 (by omega), hA28 (by omega)⟩ (fun w hw => ?_)
        first | exact hw.perm (.cons _ (.cons _ (List.Perm.refl _))) | exact hw.perm (.cons _ (.cons _ (List.Perm.swap _ _ _))) | exact hw.perm (.cons _ (.cons _ (.cons _ (.swap _ _ _)))) | exact hw.perm (.cons _ (.cons _ ((List.Perm.swap _ _ _).trans (.cons _ (.swap _ _ _))))) | exact hw.perm (.cons _ (.cons _ ((List.Perm.cons _ (.swap _ _ _)).trans (.swap _ _ _)))) | exact hw.perm (.cons _ (.cons _ ((List.Perm.swap _ _ _).trans ((List.Perm.cons _ (.swap _ _ _)).trans (.swap _ _ _)))))
  ·
    rintro ⟨⟨A24, c24⟩, ⟨A28, c28⟩, b9⟩ ⟨hc24, hc28, ⟨g24, hg24⟩, ⟨g28, hg28⟩⟩
    dsimp only
    subst hg24 hg28
    refine Wc.seq ?_
    refine Wc.seq ?_
    refine Wc.region ?_
    refine Wl.loadbw 0 t34 rfl rfl rfl rfl ?_
    refine Wl.callO [_] Tryz.func91 rfl rfl rfl rfl (fun w hw => order_calls _ J jc ns w (hw.read fun w h => h.1) hjc (by omega)) (fun v31 => ?_)
    refine Wl.form 5 rfl (fun A31 c31 e31 hc31 _ => ?_)
    subst e31
    refine Wl.freeze 5 rfl ?_
    refine Wl.heap (fun w hw => hw.imp (R' := fun w => (kNode.Row w J ns ∧ kParts.Row w A l ∧ (Kn.slice kInt).Row w O offs ∧ (Kn.slice kInt).Row w M mks) ∧ kInt.Row w A31 (order ns)) (fun w h => ⟨h.1, row_holds h.2⟩)) ?_
    refine Wl.len Tryz.underlying24 rfl rfl ?_
    refine Wl.move rfl rfl ?_
    refine Wl.nil ?_
    refine Wx.then_n ?_
    refine Wc.block ?_
    refine Wc.loopS (G := Nat × List Sl × List Sl) (fun g => match g with | ⟨k, qs, us⟩ => [(1, .slice A l.length c), (2, .slice O offs.length oc), (3, .slice M mks.length mc), (4, .pointer (some ⟨b4, 0, none⟩)), (8, .pointer (some ⟨b8, 0, none⟩)), (9, .pointer (some ⟨b9, 0, none⟩)), (31, .slice A31 (order ns).length c31), (32, .int .i64 (order ns).length), (33, .int .i64 k)]) (fun g => match g with | ⟨k, qs, us⟩ => k ≤ (order ns).length ∧ qs.length = ns.length ∧ us.length = ns.length) (fun g => match g with | ⟨k, qs, us⟩ => [.box b4 [.slice J ns.length jc] 34, .box b8 [.slice none 0 0, .slice none 0 0] 149, .box b9 [.slice (some ⟨g24, 0, none⟩) ns.length c24, .slice (some ⟨g28, 0, none⟩) ns.length c28] 149, rowOf eSl (.slice (some ⟨g24, 0, none⟩) ns.length c24) 59 1 qs, rowOf eSl (.slice (some ⟨g28, 0, none⟩) ns.length c28) 53 1 us]) (fun g => match g with | ⟨k, qs, us⟩ => fun w => (kNode.Row w J ns ∧ kParts.Row w A l ∧ (Kn.slice kInt).Row w O offs ∧ (Kn.slice kInt).Row w M mks) ∧ kInt.Row w A31 (order ns) ∧ Inner kRec w qs ((runTo ns l offs (mkOf mks) k).map (·.1)) ∧ Inner kPane w us ((runTo ns l offs (mkOf mks) k).map (·.2))) (fun g => match g with | ⟨k, qs, us⟩ => (order ns).length - k) ⟨0, (List.replicate ns.length ((none, 0, 0) : Sl)), (List.replicate ns.length ((none, 0, 0) : Sl))⟩ ⟨rfl, rfl, rfl, rfl, rfl, rfl, rfl, rfl, rfl, trivial⟩ ⟨Nat.zero_le _, by simp, by simp⟩ (fun w hw => hw.imp fun w h => ⟨h.1, h.2, by (try dsimp only); rw [runTo_zero, List.map_replicate]; exact Inner.nils _ _ _, by (try dsimp only); rw [runTo_zero, List.map_replicate]; exact Inner.nils _ _ _⟩) ?_
    rintro ⟨k, qs, us⟩ ⟨hk0, hqs, hus⟩
    dsimp only
    refine Wc.seq ?_
    refine Wc.region ?_
    refine Wl.lss rfl rfl rfl ?_
    refine Wl.nil ?_
    refine Wx.then_n ?_
    refine Wc.seq ?_
    refine Wc.condp rfl (fun h34 => ?_) (fun h34 => ?_)
    ·
      have hk : k < (order ns).length := by omega
      refine Wc.pure (p := ∃ ad, A31 = some ad) (fun w hw => hw.addr (fun w h => h.2.1) (by omega)) ?_
      rintro ⟨ad31, rfl⟩
      obtain ⟨hg0, hg1⟩ := hom _ (List.getElem_mem hk)
      obtain ⟨q, hgi⟩ : ∃ q : Nat, (order ns)[k] = q := ⟨((order ns)[k]).toNat, by omega⟩
      have hq : q < ns.length := by omega
      have hq2 : q < l.length := by omega
      obtain ⟨f1, f2, f3, f4, f5, f6, f7⟩ := node_facts (hz _ (List.getElem_mem hq))
      obtain ⟨i1, i2, i3⟩ := ins_facts f2
      have hfine := runTo_fine (offs := offs) (mk := mkOf mks) hj hl k hk q hgi
      obtain ⟨_, _, _, hfan⟩ := weight_facts hj k hk
      simp only [hgi, Int.toNat_natCast] at hfan
      have hin := inOf_nat (ns := ns) (l := l) (offs := offs) (st := (runTo ns l offs (mkOf mks) k)) q hq hq2
      have hrl := runTo_len ns l offs (mkOf mks) k
      have hfl := hfine.1
      rw [hin, List.length_append] at hfl
      refine Wc.skip ?_
      refine Wx.then_n ?_
      refine Wc.seq ?_
      refine Wc.block ?_
      refine Wc.seq ?_
      refine Wc.region ?_
      refine Wl.idx Tryz.underlying24 t3 rfl rfl rfl hk ?_
      refine Wl.loadr (j := 0) (cs := eInt (order ns)[k]) t3 (fun w h => h.2.1.cells k hk) rfl rfl (Addr.add_zero' _).symm rfl ?_
      refine Wl.assign rfl rfl ?_
      refine Wl.nil ?_
      refine Wx.then_n ?_
      refine Wc.seq ?_
      rw [hgi]
      refine Wc.pure (p := ∃ ad, J = some ad) (fun w hw => hw.addr (fun w h => h.1.1) (by omega)) ?_
      rintro ⟨jd, rfl⟩
      refine Wc.exS (fun w hw => hw.node_get (fun w h => h.1.1) q hq) ?_
      rintro ⟨⟨A2, c2⟩, A4, c4⟩ hcc
      dsimp only at hcc ⊢
      refine Wc.region ?_
      refine Wl.fld ⟨_, 0, none⟩ fl34_0 rfl rfl rfl ?_
      refine Wl.loadb 0 0 t32 rfl rfl rfl rfl ?_
      refine Wl.move rfl rfl ?_
      refine Wl.idx Tryz.underlying32 t31 rfl rfl rfl hq ?_
      refine Wl.loadrw (cs := (nodeCells ns[q] ((A2, c2), (A4, c4)))) t31 (fun w h => h.2.1) rfl rfl rfl ?_
      refine Wl.alloc t31 rfl rfl (fun b12 => ?_)
      refine Wl.storew 5 t31 rfl rfl rfl rfl rfl rfl rfl ?_
      refine Wl.nil ?_
      refine Wx.then_n ?_
      refine Wc.seq ?_
      refine Wc.region ?_
      refine Wl.assign rfl rfl ?_
      refine Wl.nil ?_
      refine Wx.then_n ?_
      refine Wc.seq ?_
      refine Wc.seq ?_
      refine Wc.pure (p := ∃ ad, A = some ad) (fun w hw => hw.addr (fun w h => h.1.1.2.1) (by omega)) ?_
      rintro ⟨ad, rfl⟩
      refine Wc.exS (fun w hw => hw.slice_get (fun w h => h.1.1.2.1) q hq2) ?_
      rintro ⟨A6, c6⟩ hc6
      dsimp only at hc6 ⊢
      have hpn := (hlp q hq hq2).2
      have hl4 : l[q].length ≤ 4 := by have := (hlp q hq hq2).1; unfold wantParts at this; split at this <;> omega
      have hi4 := (ins_ok f2).1
      refine Wc.region ?_
      refine Wl.move rfl rfl ?_
      refine Wl.move rfl rfl ?_
      refine Wl.idx Tryz.underlying38 t36 rfl rfl rfl hq2 ?_
      refine Wl.loadr (j := 0) (cs := [.slice A6 l[q].length c6]) t36 (fun w h => h.2.1) rfl rfl (Addr.add_zero' _).symm rfl ?_
      refine Wl.len Tryz.underlying36 rfl rfl ?_
      refine Wl.move rfl rfl ?_
      refine Wl.nil ?_
      refine Wx.then_n ?_
      refine Wc.block ?_
      refine Wc.loopS (G := Value × Nat) (fun g => match g with | ⟨v, p⟩ => [(1, .slice (some ad) l.length c), (2, .slice O offs.length oc), (3, .slice M mks.length mc), (4, .pointer (some ⟨b4, 0, none⟩)), (8, .pointer (some ⟨b8, 0, none⟩)), (9, .pointer (some ⟨b9, 0, none⟩)), (31, .slice (some ad31) (order ns).length c31), (32, .int .i64 (order ns).length), (33, .int .i64 k), (11, .int .i64 q), (12, .pointer (some ⟨b12, 0, none⟩)), (13, v), (46, .int .i64 l[q].length), (47, .int .i64 p)]) (fun g => match g with | ⟨v, p⟩ => p ≤ l[q].length) (fun g => match g with | ⟨v, p⟩ => [.box b4 [.slice (some jd) ns.length jc] 34, .box b8 [.slice none 0 0, .slice none 0 0] 149, .box b9 [.slice (some ⟨g24, 0, none⟩) ns.length c24, .slice (some ⟨g28, 0, none⟩) ns.length c28] 149, rowOf eSl (.slice (some ⟨g24, 0, none⟩) ns.length c24) 59 1 qs, rowOf eSl (.slice (some ⟨g28, 0, none⟩) ns.length c28) 53 1 us, .box b12 (nodeCells ns[q] ((A2, c2), (A4, c4))) 31, rowOf eRec v 70 3 (recsOf ((readOf offs q l[q]).take p))]) (fun g => match g with | ⟨v, p⟩ => fun w => (((kNode.Row w (some jd) ns ∧ kParts.Row w (some ad) l ∧ (Kn.slice kInt).Row w O offs ∧ (Kn.slice kInt).Row w M mks) ∧ kInt.Row w (some ad31) (order ns) ∧ Inner kRec w qs ((runTo ns l offs (mkOf mks) k).map (·.1)) ∧ Inner kPane w us ((runTo ns l offs (mkOf mks) k).map (·.2))) ∧ Cells w (jd.add (q * 10)) (nodeCells ns[q] ((A2, c2), (A4, c4))) ∧ kInt.Row w A2 ns[q].ins ∧ kExpr.Row w A4 ns[q].e.l) ∧ Cells w (ad.add (q * 1)) [.slice A6 l[q].length c6] ∧ (Kn.slice kItem).Row w A6 l[q]) (fun g => match g with | ⟨v, p⟩ => l[q].length - p) ⟨.slice none 0 0, 0⟩ ⟨rfl, rfl, rfl, rfl, rfl, rfl, rfl, rfl, rfl, rfl, rfl, rfl, rfl, rfl, trivial⟩ (Nat.zero_le _) (fun w hw => hw.nil 70 3) ?_
      rintro ⟨v, p⟩ hp0
      dsimp only
      refine Wc.seq ?_
      refine Wc.region ?_
      refine Wl.lss rfl rfl rfl ?_
      refine Wl.nil ?_
      refine Wx.then_n ?_
      refine Wc.seq ?_
      refine Wc.condp rfl (fun h48 => ?_) (fun h48 => ?_)
      ·
        have hp : p < l[q].length := by omega
        have hp2 : p < (readOf offs q l[q]).length := by unfold readOf; rw [List.length_mapIdx]; exact hp
        have hpr : (recsOf ((readOf offs q l[q]).take (p + 1))) = (recsOf ((readOf offs q l[q]).take p)) ++ recs1 (late (readPart offs q p l[q][p])) := by unfold recsOf; rw [flatMap_take _ _ p hp2, readOf_at offs q p l[q] hp hp2]; rfl
        have hpl : (readPart offs q p l[q][p]).length ≤ 4096 := Nat.le_trans (readPart_len ..) (hpn _ (List.getElem_mem hp)).1
        have hpl2 : (late (readPart offs q p l[q][p])).length ≤ 4096 := Nat.le_trans (lateGo_len _ _) hpl
        have hpp := flatMap_part partRecs (readOf offs q l[q]) p
        rw [show (readOf offs q l[q]).flatMap partRecs = recsOf (readOf offs q l[q]) from rfl, show ((readOf offs q l[q]).take p).flatMap partRecs = (recsOf ((readOf offs q l[q]).take p)) from rfl] at hpp
        refine Wc.skip ?_
        refine Wx.then_n ?_
        refine Wc.seq ?_
        refine Wc.block ?_
        refine Wc.seq ?_
        refine Wc.region ?_
        refine Wl.move rfl rfl ?_
        refine Wl.assign rfl rfl ?_
        refine Wl.nil ?_
        refine Wx.then_n ?_
        refine Wc.seq ?_
        refine Wc.region ?_
        refine Wl.move rfl rfl ?_
        refine Wl.move rfl rfl ?_
        refine Wl.move rfl rfl ?_
        refine Wl.move rfl rfl ?_
        refine Wl.callR [.slice (some ad) l.length c, .slice O offs.length oc, .int .i64 q, .int .i64 p] Tryz.func92 rfl rfl rfl rfl (fun w hw => read_calls _ (some ad) O c oc l offs q p hq2 hp w (hw.read fun w h => ⟨h.1.1.1.2.1, h.1.1.1.2.2.1⟩)) (fun A54 c54 hc54 => ?_)
        refine Wl.callR [_] Tryz.func80 rfl rfl rfl rfl (fun w hw => late_calls _ A54 c54 _ w (hw.read fun w h => h.2) hc54 (by omega)) (fun A55 c55 hc55 => ?_)
        refine Wl.len Tryz.underlying22 rfl rfl ?_
        refine Wl.move rfl rfl ?_
        refine Wl.nil ?_
        refine Wx.then_n ?_
        refine Wc.block ?_
        refine Wc.loopS (G := Value × Nat) (fun g => match g with | ⟨v, n⟩ => [(1, .slice (some ad) l.length c), (2, .slice O offs.length oc), (3, .slice M mks.length mc), (4, .pointer (some ⟨b4, 0, none⟩)), (8, .pointer (some ⟨b8, 0, none⟩)), (9, .pointer (some ⟨b9, 0, none⟩)), (31, .slice (some ad31) (order ns).length c31), (32, .int .i64 (order ns).length), (33, .int .i64 k), (11, .int .i64 q), (12, .pointer (some ⟨b12, 0, none⟩)), (13, v), (46, .int .i64 l[q].length), (47, .int .i64 p), (55, .slice A55 (late (readPart offs q p l[q][p])).length c55), (56, .int .i64 (late (readPart offs q p l[q][p])).length), (57, .int .i64 n)]) (fun g => match g with | ⟨v, n⟩ => n ≤ (late (readPart offs q p l[q][p])).length) (fun g => match g with | ⟨v, n⟩ => [.box b4 [.slice (some jd) ns.length jc] 34, .box b8 [.slice none 0 0, .slice none 0 0] 149, .box b9 [.slice (some ⟨g24, 0, none⟩) ns.length c24, .slice (some ⟨g28, 0, none⟩) ns.length c28] 149, rowOf eSl (.slice (some ⟨g24, 0, none⟩) ns.length c24) 59 1 qs, rowOf eSl (.slice (some ⟨g28, 0, none⟩) ns.length c28) 53 1 us, .box b12 (nodeCells ns[q] ((A2, c2), (A4, c4))) 31, rowOf eRec v 70 3 ((recsOf ((readOf offs q l[q]).take p)) ++ recs1 ((late (readPart offs q p l[q][p])).take n))]) (fun g => match g with | ⟨v, n⟩ => fun w => (((((kNode.Row w (some jd) ns ∧ kParts.Row w (some ad) l ∧ (Kn.slice kInt).Row w O offs ∧ (Kn.slice kInt).Row w M mks) ∧ kInt.Row w (some ad31) (order ns) ∧ Inner kRec w qs ((runTo ns l offs (mkOf mks) k).map (·.1)) ∧ Inner kPane w us ((runTo ns l offs (mkOf mks) k).map (·.2))) ∧ Cells w (jd.add (q * 10)) (nodeCells ns[q] ((A2, c2), (A4, c4))) ∧ kInt.Row w A2 ns[q].ins ∧ kExpr.Row w A4 ns[q].e.l) ∧ Cells w (ad.add (q * 1)) [.slice A6 l[q].length c6] ∧ (Kn.slice kItem).Row w A6 l[q]) ∧ kItem.Row w A54 (readPart offs q p l[q][p])) ∧ kItem.Row w A55 (late (readPart offs q p l[q][p]))) (fun g => match g with | ⟨v, n⟩ => (late (readPart offs q p l[q][p])).length - n) ⟨v, 0⟩ ⟨rfl, rfl, rfl, rfl, rfl, rfl, rfl, rfl, rfl, rfl, rfl, rfl, rfl, rfl, rfl, rfl, rfl, trivial⟩ (Nat.zero_le _) (fun w hw => by simp only [List.take_zero, recs1, List.filter_nil, List.map_nil, List.append_nil]; exact hw) ?_
        rintro ⟨v, n⟩ hn0
        dsimp only
        refine Wc.seq ?_
        refine Wc.region ?_
        refine Wl.lss rfl rfl rfl ?_
        refine Wl.nil ?_
        refine Wx.then_n ?_
        refine Wc.seq ?_
        refine Wc.condp rfl (fun h58 => ?_) (fun h58 => ?_)
        ·
          have hn : n < (late (readPart offs q p l[q][p])).length := by omega
          refine Wc.pure (p := ∃ ad, A55 = some ad) (fun w hw => hw.addr (fun w h => h.2) (by omega)) ?_
          rintro ⟨ad55, rfl⟩
          have hrt := recs1_take (late (readPart offs q p l[q][p])) n hn
          have hrl2 := recs1_len ((late (readPart offs q p l[q][p])).take n)
          rw [List.length_take] at hrl2
          refine Wc.skip ?_
          refine Wx.then_n ?_
          refine Wc.seq ?_
          refine Wc.block ?_
          refine Wc.seq ?_
          refine Wc.region ?_
          refine Wl.idx Tryz.underlying22 t100 rfl rfl rfl hn ?_
          refine Wl.loadrw (cs := eItem (late (readPart offs q p l[q][p]))[n]) t100 (fun w h => h.2.cells n hn) rfl rfl rfl ?_
          refine Wl.alloc t100 rfl rfl (fun b16 => ?_)
          refine Wl.storew 7 t100 rfl rfl rfl rfl rfl rfl rfl ?_
          refine Wl.nil ?_
          refine Wx.then_n ?_
          refine Wc.seq ?_
          refine Wc.region ?_
          refine Wl.fld ⟨_, 0, none⟩ fl100_0 rfl rfl rfl ?_
          refine Wl.loadb 7 0 t3 rfl rfl rfl rfl ?_
          refine Wl.eql rfl rfl rfl ?_
          refine Wl.nil ?_
          refine Wx.then_n ?_
          refine Wc.condp rfl (fun h63 => ?_) (fun h63 => ?_)
          ·
            refine Wc.region ?_
            refine Wl.move rfl rfl ?_
            refine Wl.fld ⟨_, 1, none⟩ fl100_1 rfl rfl rfl ?_
            refine Wl.loadbs 7 1 t70 rfl rfl rfl rfl rfl ?_
            refine Wl.slice1 Tryz.underlying59 t70 rfl rfl rfl rfl rfl rfl (fun b67 => ?_)
            refine Wl.app1e 6 8 ((late (readPart offs q p l[q][p]))[n].rcd) Tryz.underlying59 t70 rfl rfl rfl rfl rfl rfl rfl rfl rfl rfl rfl (by rw [List.length_append]; omega) (fun v68 => ?_)
            refine Wl.assign rfl rfl ?_
            refine Wl.nil ?_
            refine Wx.block_n ?_
            refine Wx.then_n ?_
            refine Wc.region ?_
            refine Wl.add rfl rfl rfl (by omega) ?_
            refine Wl.move rfl rfl ?_
            refine Wl.nil ?_
            exact Wx.againS ⟨v68, n + 1⟩ (by (try dsimp only); omega) ⟨rfl, rfl, rfl, rfl, rfl, rfl, rfl, rfl, rfl, rfl, rfl, rfl, rfl, rfl, rfl, rfl, rfl, trivial⟩ hn (fun w hw => by dsimp only; rw [hrt, if_pos h63, ← List.append_assoc]; exact hw.take 7)
          ·
            refine Wc.skip ?_
            refine Wx.block_n ?_
            refine Wx.then_n ?_
            refine Wc.region ?_
            refine Wl.add rfl rfl rfl (by omega) ?_
            refine Wl.move rfl rfl ?_
            refine Wl.nil ?_
            exact Wx.againS ⟨v, n + 1⟩ (by (try dsimp only); omega) ⟨rfl, rfl, rfl, rfl, rfl, rfl, rfl, rfl, rfl, rfl, rfl, rfl, rfl, rfl, rfl, rfl, rfl, trivial⟩ hn (fun w hw => by dsimp only; rw [hrt, if_neg h63, List.append_nil]; exact hw.take 7)
        ·
          refine Wc.exit ?_
          refine Wx.then_e ?_
          refine Wx.then_e ?_
          refine Wx.block_e ?_
          refine Wx.block_n ?_
          refine Wx.then_n ?_
          refine Wc.region ?_
          refine Wl.add rfl rfl rfl (by omega) ?_
          refine Wl.move rfl rfl ?_
          refine Wl.nil ?_
          obtain rfl : n = (late (readPart offs q p l[q][p])).length := by omega
          exact Wx.againS ⟨v, p + 1⟩ (by (try dsimp only); omega) ⟨rfl, rfl, rfl, rfl, rfl, rfl, rfl, rfl, rfl, rfl, rfl, rfl, rfl, rfl, trivial⟩ hp (fun w hw => by dsimp only; rw [hpr]; rw [List.take_length] at hw; exact hw.imp fun w h => h.1.1)
      ·
        obtain rfl : p = l[q].length := by omega
        rw [show (readOf offs q l[q]).take l[q].length = readOf offs q l[q] from List.take_of_length_le (by unfold readOf; rw [List.length_mapIdx]; omega)]
        refine Wc.exit ?_
        refine Wx.then_e ?_
        refine Wx.then_e ?_
        refine Wx.block_e ?_
        refine Wx.then_n ?_
        refine Wc.seq ?_
        refine Wc.seq ?_
        refine Wc.region ?_
        refine Wl.fld ⟨_, 1, none⟩ fl31_1 rfl rfl rfl ?_
        refine Wl.loadb 5 1 t24 rfl rfl rfl rfl ?_
        refine Wl.len Tryz.underlying24 rfl rfl ?_
        refine Wl.move rfl rfl ?_
        refine Wl.nil ?_
        refine Wx.then_n ?_
        refine Wc.block ?_
        refine Wc.loopS (G := Value × Nat) (fun g => match g with | ⟨v, i⟩ => [(1, .slice (some ad) l.length c), (2, .slice O offs.length oc), (3, .slice M mks.length mc), (4, .pointer (some ⟨b4, 0, none⟩)), (8, .pointer (some ⟨b8, 0, none⟩)), (9, .pointer (some ⟨b9, 0, none⟩)), (31, .slice (some ad31) (order ns).length c31), (32, .int .i64 (order ns).length), (33, .int .i64 k), (11, .int .i64 q), (12, .pointer (some ⟨b12, 0, none⟩)), (13, v), (72, .slice A2 ns[q].ins.length c2), (73, .int .i64 ns[q].ins.length), (74, .int .i64 i)]) (fun g => match g with | ⟨v, i⟩ => i ≤ ns[q].ins.length) (fun g => match g with | ⟨v, i⟩ => [.box b4 [.slice (some jd) ns.length jc] 34, .box b8 [.slice none 0 0, .slice none 0 0] 149, .box b9 [.slice (some ⟨g24, 0, none⟩) ns.length c24, .slice (some ⟨g28, 0, none⟩) ns.length c28] 149, rowOf eSl (.slice (some ⟨g24, 0, none⟩) ns.length c24) 59 1 qs, rowOf eSl (.slice (some ⟨g28, 0, none⟩) ns.length c28) 53 1 us, .box b12 (nodeCells ns[q] ((A2, c2), (A4, c4))) 31, rowOf eRec v 70 3 (recsOf (readOf offs q l[q]) ++ (ns[q].ins.take i).flatMap (outAt (runTo ns l offs (mkOf mks) k)))]) (fun g => match g with | ⟨v, i⟩ => fun w => (((kNode.Row w (some jd) ns ∧ kParts.Row w (some ad) l ∧ (Kn.slice kInt).Row w O offs ∧ (Kn.slice kInt).Row w M mks) ∧ kInt.Row w (some ad31) (order ns) ∧ Inner kRec w qs ((runTo ns l offs (mkOf mks) k).map (·.1)) ∧ Inner kPane w us ((runTo ns l offs (mkOf mks) k).map (·.2))) ∧ Cells w (jd.add (q * 10)) (nodeCells ns[q] ((A2, c2), (A4, c4))) ∧ kInt.Row w A2 ns[q].ins ∧ kExpr.Row w A4 ns[q].e.l) ∧ Cells w (ad.add (q * 1)) [.slice A6 l[q].length c6] ∧ (Kn.slice kItem).Row w A6 l[q]) (fun g => match g with | ⟨v, i⟩ => ns[q].ins.length - i) ⟨v, 0⟩ ⟨rfl, rfl, rfl, rfl, rfl, rfl, rfl, rfl, rfl, rfl, rfl, rfl, rfl, rfl, rfl, trivial⟩ (Nat.zero_le _) (fun w hw => by simp only [List.take_zero, List.flatMap_nil, List.append_nil]; exact hw) ?_
        rintro ⟨v, i⟩ hi0
        dsimp only
        refine Wc.seq ?_
        refine Wc.region ?_
        refine Wl.lss rfl rfl rfl ?_
        refine Wl.nil ?_
        refine Wx.then_n ?_
        refine Wc.seq ?_
        refine Wc.condp rfl (fun h75 => ?_) (fun h75 => ?_)
        ·
          have hi : i < ns[q].ins.length := by omega
          refine Wc.pure (p := ∃ ad, A2 = some ad) (fun w hw => hw.addr (fun w h => h.1.2.2.1) (by omega)) ?_
          rintro ⟨ad2, rfl⟩
          have hii := i1 _ (List.getElem_mem hi)
          obtain ⟨r, hir⟩ : ∃ r : Nat, ns[q].ins[i] = r := ⟨(ns[q].ins[i]).toNat, by omega⟩
          have hft := flatMap_take (outAt (runTo ns l offs (mkOf mks) k)) ns[q].ins i hi
          rw [hir] at hft
          have hfp := flatMap_part (outAt (runTo ns l offs (mkOf mks) k)) ns[q].ins (i + 1)
          rw [hft, List.length_append] at hfp
          have hrq : r < qs.length := by omega
          refine Wc.pure (p := (qs[r]).2.1 = (outAt (runTo ns l offs (mkOf mks) k) r).length) (fun w hw => ?_) ?_
          · rw [← outAt_map r (by omega) (by rw [List.length_map]; omega)]; exact (hw.now.1.1.2.2.1.at r hrq (by rw [List.length_map]; omega)).1
          intro hql
          refine Wc.skip ?_
          refine Wx.then_n ?_
          refine Wc.seq ?_
          refine Wc.block ?_
          refine Wc.seq ?_
          refine Wc.region ?_
          refine Wl.idx Tryz.underlying24 t3 rfl rfl rfl hi ?_
          refine Wl.loadr (j := 0) (cs := eInt ns[q].ins[i]) t3 (fun w h => h.1.2.2.1.cells i hi) rfl rfl (Addr.add_zero' _).symm rfl ?_
          refine Wl.assign rfl rfl ?_
          refine Wl.nil ?_
          refine Wx.then_n ?_
          rw [hir]
          refine Wc.region ?_
          refine Wl.move rfl rfl ?_
          refine Wl.fld ⟨_, 0, none⟩ fl149_0 rfl rfl rfl ?_
          refine Wl.loadb 2 0 t82 rfl rfl rfl rfl ?_
          refine Wl.move rfl rfl ?_
          refine Wl.idx (j := r) Tryz.underlying82 t59 rfl rfl rfl (by omega) ?_
          refine Wl.loadh (j := 0) (cs := (eSl qs[r])) t59 (fun w hw => St.own_cells2 (enc := eSl) (sz := 1) hw 3 rfl (fun _ => rfl) (fun _ => rfl) (by decide) r (by omega)) rfl rfl (Addr.add_zero' _).symm rfl ?_
          refine Wl.appR (enc := eRec) (A := (qs[r]).1) (c := (qs[r]).2.2) (xs := recsOf (readOf offs q l[q]) ++ (ns[q].ins.take i).flatMap (outAt (runTo ns l offs (mkOf mks) k))) (ys := outAt (runTo ns l offs (mkOf mks) k) r) 6 Tryz.underlying59 t70 (fun w h => by rw [← outAt_map r (by omega) (by rw [List.length_map]; omega)]; exact (h.1.1.2.2.1.at r hrq (by rw [List.length_map]; omega)).2.2) rfl (congrArg (fun z => some (Value.slice _ z _)) hql) rfl rfl rfl rfl (by rw [List.length_append]; omega) (fun v84 => ?_)
          refine Wl.assign rfl rfl ?_
          refine Wl.nil ?_
          refine Wx.block_n ?_
          refine Wx.then_n ?_
          refine Wc.region ?_
          refine Wl.add rfl rfl rfl (by omega) ?_
          refine Wl.move rfl rfl ?_
          refine Wl.nil ?_
          exact Wx.againS ⟨v84, i + 1⟩ (by (try dsimp only); omega) ⟨rfl, rfl, rfl, rfl, rfl, rfl, rfl, rfl, rfl, rfl, rfl, rfl, rfl, rfl, rfl, trivial⟩ hi (fun w hw => by dsimp only; rw [hft, ← List.append_assoc]; exact hw)
        ·
          obtain rfl : i = ns[q].ins.length := by omega
          rw [List.take_length, ← hin]
          refine Wc.form 6 rfl (fun A13 c13 e13 hc13 _ => ?_)
          subst e13
          refine Wc.freeze 6 rfl ?_
          refine Wc.heap (fun w hw => hw.imp (R' := fun w => ((((kNode.Row w (some jd) ns ∧ kParts.Row w (some ad) l ∧ (Kn.slice kInt).Row w O offs ∧ (Kn.slice kInt).Row w M mks) ∧ kInt.Row w (some ad31) (order ns) ∧ Inner kRec w qs ((runTo ns l offs (mkOf mks) k).map (·.1)) ∧ Inner kPane w us ((runTo ns l offs (mkOf mks) k).map (·.2))) ∧ Cells w (jd.add (q * 10)) (nodeCells ns[q] ((A2, c2), (A4, c4))) ∧ kInt.Row w A2 ns[q].ins ∧ kExpr.Row w A4 ns[q].e.l) ∧ Cells w (ad.add (q * 1)) [.slice A6 l[q].length c6] ∧ (Kn.slice kItem).Row w A6 l[q]) ∧ kRec.Row w A13 (inOf ns l offs (runTo ns l offs (mkOf mks) k) q)) (fun w h => ⟨h.1, row_holds h.2⟩)) ?_
          refine Wc.pure (p := ∃ ad, M = some ad) (fun w hw => hw.addr (fun w h => h.1.1.1.1.2.2.2) (by omega)) ?_
          rintro ⟨md, rfl⟩
          refine Wc.exS (fun w hw => hw.slice_get (fun w h => h.1.1.1.1.2.2.2) q (by omega)) ?_
          rintro ⟨A92, c92⟩ hc92
          dsimp only at hc92 ⊢
          have hmq := mkOf_nat mks q (by omega)
          have hm2 := hm1 _ (List.getElem_mem (show q < mks.length by omega))
          refine Wc.exit ?_
          refine Wx.then_e ?_
          refine Wx.then_e ?_
          refine Wx.block_e ?_
          refine Wx.then_n ?_
          refine Wc.seq ?_
          refine Wany.startH mixed (fun w hw => hw.drew) ?_
          refine Wany.take (f := 7) [0, 1, 2, 3, 4, 5] (fun w hw => hw) (by kernel_rfl) ?_
          refine Wl.loadbw 5 t31 rfl rfl rfl rfl ?_
          refine Wl.move rfl rfl ?_
          refine Wl.move rfl rfl ?_
          refine Wl.move rfl rfl ?_
          refine Wl.idx Tryz.underlying85 t52 rfl rfl rfl (by omega) ?_
          refine Wl.loadr (j := 0) (cs := [.slice A92 mks[q].length c92]) t52 (fun w h => h.2.1) rfl rfl (Addr.add_zero' _).symm rfl ?_
          refine Wl.nilh ?_
          refine Wany.eff (f := 6) 6 rfl (by kernel_rfl) ?_
          refine Wl.callV [_] Tryz.func113 rfl rfl rfl rfl (fun w hw => min_calls _ A92 c92 mks[q] hm2.1 w (hw.read fun w h => h.2.2) hm2.2) ?_
          refine Wl.nile (fun w hw => hw) ?_
          refine Wany.eff (f := 5) 7 rfl (by kernel_rfl) ?_
          refine Wl.callS (G := (Option Addr × Nat) × (Option Addr × Nat)) (v := fun g : (Option Addr × Nat) × (Option Addr × Nat) => .tuple #[.slice g.1.1 (workOf ns[q] (inOf ns l offs (runTo ns l offs (mkOf mks) k) q) (minL mks[q])).1.length g.1.2, .slice g.2.1 (workOf ns[q] (inOf ns l offs (runTo ns l offs (mkOf mks) k) q) (minL mks[q])).2.length g.2.2]) (p := fun g => (workOf ns[q] (inOf ns l offs (runTo ns l offs (mkOf mks) k) q) (minL mks[q])).1.length ≤ g.1.2 ∧ (workOf ns[q] (inOf ns l offs (runTo ns l offs (mkOf mks) k) q) (minL mks[q])).2.length ≤ g.2.2) (L' := fun _ => []) (R' := fun g w => kRec.Row w g.1.1 (workOf ns[q] (inOf ns l offs (runTo ns l offs (mkOf mks) k) q) (minL mks[q])).1 ∧ kPane.Row w g.2.1 (workOf ns[q] (inOf ns l offs (runTo ns l offs (mkOf mks) k) q) (minL mks[q])).2) [.agg #[.int .i64 ns[q].kind, .slice A2 ns[q].ins.length c2, .int .i64 ns[q].par, .int .i64 ns[q].e.op, .int .i64 ns[q].e.n, .slice A4 ns[q].e.l.length c4, .int .i64 ns[q].agg, .int .i64 ns[q].win.kind, .int .i64 ns[q].win.size, .int .i64 ns[q].win.slide], .slice A13 (inOf ns l offs (runTo ns l offs (mkOf mks) k) q).length c13, .int .i64 (minL mks[q])] Tryz.func126 rfl rfl rfl rfl (fun w hw => work_calls _ ns[q] A2 A4 A13 c2 c4 c13 (inOf ns l offs (runTo ns l offs (mkOf mks) k) q) (minL mks[q]) w (hw.read fun w h => ⟨h.1.2, h.1.1.1.2.2.2⟩) hc13 hcc.2 (hs _ (List.getElem_mem hq)) f6 (fun h3 => Decidable.byContradiction fun h7 => by rw [f7 h7] at h3; cases h3) hfan hfine) (fun g94 hg94 => ?_)
          rw [← hmq] at hg94 ⊢
          have hwl := workOf_len f6 (inOf ns l offs (runTo ns l offs (mkOf mks) k) q) (mkOf mks q)
          have hwl2 : fanOf ns[q] * (inOf ns l offs (runTo ns l offs (mkOf mks) k) q).length ≤ 64 * 33554432 := Nat.mul_le_mul hfan hfine.1
          refine Wl.nile (fun w hw => hw.imp fun w h => h.1) ?_
          refine Wany.take (f := 0) [8, 9, 10, 11, 12] (fun w hw => hw.imp fun w h => h.1) (by kernel_rfl) ?_
          refine Wl.move rfl rfl ?_
          refine Wl.extract rfl rfl rfl ?_
          refine Wl.extract rfl rfl rfl ?_
          refine Wl.assign rfl rfl ?_
          refine Wl.assign rfl rfl ?_
          refine Wl.nilh ?_
          refine Wany.done (by kernel_rfl) ?_
          refine Wx.then_n ?_
          refine Wany.start (St w (fun _ => False) m [.box b4 [.slice (some jd) ns.length jc] 34, .box b8 [.slice none 0 0, .slice none 0 0] 149, .box b9 [.slice (some ⟨g24, 0, none⟩) ns.length c24, .slice (some ⟨g28, 0, none⟩) ns.length c28] 149] (fun _ => True)) mixed (fun w hw => hw.drew) ?_
          refine Wany.take (f := 5) [0, 1, 2, 3, 4, 5, 6, 8] (fun w hw => (hw.take 3).imp fun _ _ => trivial) (by kernel_rfl) ?_
          refine Wl.fld ⟨_, 0, none⟩ fl149_0 rfl rfl rfl ?_
          refine Wl.loadb 2 0 t82 rfl rfl rfl rfl ?_
          refine Wl.move rfl rfl ?_
          refine Wl.fld ⟨_, 1, none⟩ fl149_1 rfl rfl rfl ?_
          refine Wl.loadb 2 1 t86 rfl rfl rfl rfl ?_
          refine Wl.move rfl rfl ?_
          refine Wl.move rfl rfl ?_
          refine Wl.move rfl rfl ?_
          refine Wl.nilh ?_
          refine Wany.eff (f := 4) 7 rfl (by kernel_rfl) ?_
          refine Wl.callO [.slice g94.1.1 (workOf ns[q] (inOf ns l offs (runTo ns l offs (mkOf mks) k) q) (mkOf mks q)).1.length g94.1.2] Tryz.func47 rfl rfl rfl rfl (fun w hw => meansort_calls _ g94.1.1 g94.1.2 (workOf ns[q] (inOf ns l offs (runTo ns l offs (mkOf mks) k) q) (mkOf mks q)).1 w (hw.read fun w h => h.2.1) hg94.1 (by omega)) (fun v104 => ?_)
          refine Wl.form 6 rfl (fun A104 c104 e104 hc104 _ => ?_)
          subst e104
          refine Wl.freeze 6 rfl ?_
          refine Wl.nile (fun w hw => (hw.take 3).imp fun _ _ => trivial) ?_
          refine Wany.take (f := 3) [9] (fun w hw => (hw.take 3).imp fun _ _ => trivial) (by kernel_rfl) ?_
          refine Wl.idx (j := q) Tryz.underlying82 t59 rfl rfl rfl (by omega) ?_
          refine Wl.nilh ?_
          refine Wany.eff (f := 2) 10 rfl (by kernel_rfl) ?_
          refine Wl.storee 3 (q) 0 (((A104, (sortR (workOf ns[q] (inOf ns l offs (runTo ns l offs (mkOf mks) k) q) (mkOf mks q)).1).length, c104) : Sl)) t59 rfl rfl rfl hqs (fun _ => rfl) rfl rfl rfl (by omega) (addr_at _ _) (Nat.le_of_ble_eq_true rfl) rfl ?_
          refine Wl.nile (fun w hw => (hw.take 3).imp fun _ _ => trivial) ?_
          refine Wany.take (f := 1) [11] (fun w hw => (hw.take 3).imp fun _ _ => trivial) (by kernel_rfl) ?_
          refine Wl.idx (j := q) Tryz.underlying86 t53 rfl rfl rfl (by omega) ?_
          refine Wl.nilh ?_
          refine Wany.eff (f := 0) 12 rfl (by kernel_rfl) ?_
          refine Wl.storee 4 (q) 0 (((g94.2.1, (workOf ns[q] (inOf ns l offs (runTo ns l offs (mkOf mks) k) q) (mkOf mks q)).2.length, g94.2.2) : Sl)) t53 rfl rfl rfl hus (fun _ => rfl) rfl rfl rfl (by omega) (addr_at _ _) (Nat.le_of_ble_eq_true rfl) rfl ?_
          refine Wl.nile (fun w hw => (hw.take 3).imp fun _ _ => trivial) ?_
          refine Wany.done (by kernel_rfl) ?_
          refine Wx.block_n ?_
          refine Wx.then_n ?_
          refine Wc.region ?_
          refine Wl.add rfl rfl rfl (by omega) ?_
          refine Wl.move rfl rfl ?_
          refine Wl.nil ?_
          exact Wx.againS ⟨k + 1, qs.set q ((A104, (sortR (workOf ns[q] (inOf ns l offs (runTo ns l offs (mkOf mks) k) q) (mkOf mks q)).1).length, c104) : Sl), us.set q ((g94.2.1, (workOf ns[q] (inOf ns l offs (runTo ns l offs (mkOf mks) k) q) (mkOf mks q)).2.length, g94.2.2) : Sl)⟩ (by (try dsimp only); omega) ⟨rfl, rfl, rfl, rfl, rfl, rfl, rfl, rfl, rfl, trivial⟩ ⟨hk, by (try dsimp only); rw [List.length_set]; exact hqs, by (try dsimp only); rw [List.length_set]; exact hus⟩ (fun w hw => (hw.take 5).imp fun w h => ⟨h.1.1.1.1.1.1.1, h.1.1.1.1.1.1.2.1, by (try dsimp only); rw [(runTo_succ l offs (mkOf mks) k hk q hq hgi), List.map_set]; exact h.1.1.1.1.1.1.2.2.1.set q _ _ ⟨rfl, hc104, row_holds h.2⟩, by (try dsimp only); rw [(runTo_succ l offs (mkOf mks) k hk q hq hgi), List.map_set]; exact h.1.1.1.1.1.1.2.2.2.set q _ _ ⟨rfl, hg94.2, h.1.2.2⟩⟩)
    ·
      obtain rfl : k = (order ns).length := by omega
      rw [runTo_last]
      refine Wc.exit ?_
      refine Wx.then_e ?_
      refine Wx.then_e ?_
      refine Wx.block_e ?_
      refine Wx.then_n ?_
      refine Wc.seq ?_
      refine Wc.region ?_
      refine Wl.loadbw 2 t149 rfl rfl rfl rfl ?_
      refine Wl.storew 1 t149 rfl rfl rfl rfl rfl rfl rfl ?_
      refine Wl.nil ?_
      refine Wx.then_n ?_
      refine Wc.ret ?_
      exact Wx.retPC 1 ((⟨(some ⟨g24, 0, none⟩, c24), (some ⟨g28, 0, none⟩, c28)⟩) : (Option Addr × Nat) × (Option Addr × Nat)) t149 rfl rfl rfl rfl rfl ⟨hc24, hc28⟩ (fun w hw => (((hw.freeze 3 rfl).freeze 3 rfl).take 0).imp (fun w h => ⟨h.1.1.2.2.1.row h.1.2, h.1.1.2.2.2.row h.2⟩))

end Go.Proofs.YtkffjbijamfnoaaGreat
