/-
  Each part's watermark.
-/
import Derived.Test.YtkffjbijamfnoaaGreatMake2
import Derived.Test.YtkffjbijamfnoaaGreatHlInn
set_option linter.unusedVariables false
set_option linter.unusedSimpArgs false
namespace Go.Proofs.YtkffjbijamfnoaaGreat
open Go.RowKit

def markStep (m : Int) (x : Item) : Int := if x.kind = 2 then max m x.mark else m
def maxTo (items : List Item) (n : Nat) : Int := (items.take n).foldl markStep minMark
def markOf (items : List Item) : Int := items.foldl markStep minMark
theorem maxTo_succ (items : List Item) (n : Nat) (hn : n < items.length) : maxTo items (n + 1) = markStep (maxTo items n) items[n] := by
  unfold maxTo
  rw [List.take_succ_eq_append_getElem hn, List.foldl_append]; rfl
theorem maxTo_all (items : List Item) : maxTo items items.length = markOf items := by unfold maxTo; rw [List.take_length]; rfl
def baseOf (ns : List Node) (l : Logs) (offs : List (List Int)) (q p : Nat) : Int := if ((ns[q]?).map Node.kind).getD 0 ≠ 1 then maxMark else markOf (readPart offs q p ((((l[q]?).getD [])[p]?).getD []))
def rowTo (xs : List Int) (f : Nat → Int) (p : Nat) : List Int := xs.mapIdx (fun j x => if j < p then f j else x)
theorem rowTo_zero (xs : List Int) (f : Nat → Int) : rowTo xs f 0 = xs := by
  apply List.ext_getElem (by simp [rowTo])
  intro i h1 h2
  simp [rowTo]
theorem rowTo_len (xs : List Int) (f : Nat → Int) (p : Nat) : (rowTo xs f p).length = xs.length := by unfold rowTo; simp
theorem rowTo_succ (xs : List Int) (f : Nat → Int) (p : Nat) : (rowTo xs f p).set p (f p) = rowTo xs f (p + 1) := by
  unfold rowTo
  apply List.ext_getElem (by simp)
  intro i h1 h2
  simp only [List.getElem_set, List.getElem_mapIdx]
  by_cases e : p = i
  · subst e; simp
  · rw [if_neg e]
    by_cases h : i < p
    · rw [if_pos h, if_pos (by omega)]
    · rw [if_neg h, if_neg (by omega)]
def taskAt (T : List Task) (j : Int) : Task := (T[j.toNat]?).getD ⟨0, 0⟩
def chStep (T : List Task) (q : Nat) (M : List (List Int)) (c : Chan) : List (List Int) :=
  if (taskAt T c.to).node = q then setM M q (taskAt T c.to).part.toNat (min (getM M q (taskAt T c.to).part.toNat) (getM M (taskAt T c.frm).node.toNat (taskAt T c.frm).part.toNat)) else M
def nodeBase (ns : List Node) (l : Logs) (offs : List (List Int)) (M : List (List Int)) (q : Nat) (p : Nat) : List (List Int) := M.set q (rowTo (M.getD q []) (baseOf ns l offs q) p)
def nodeMk (ns : List Node) (l : Logs) (offs : List (List Int)) (M : List (List Int)) (i : Int) : List (List Int) := (chansOf ns).foldl (chStep (tasksOf ns) i.toNat) (nodeBase ns l offs M i.toNat (M.getD i.toNat []).length)
def zeros (ns : List Node) : List (List Int) := ns.map (fun n => List.replicate n.par.toNat 0)
def marksGo (ns : List Node) (l : Logs) (offs : List (List Int)) (o : List Int) (M : List (List Int)) : List (List Int) := o.foldl (nodeMk ns l offs) M
def marksAll (ns : List Node) (l : Logs) (offs : List (List Int)) : List (List Int) := marksGo ns l offs (order ns) (zeros ns)
def meanMarks (ns : List Node) (l : Logs) (offs : List (List Int)) : List (List Int) := if rightOk ns l then marksAll ns l offs else []
theorem marksGo_drop (ns : List Node) (l : Logs) (offs : List (List Int)) (o : List Int) (M : List (List Int)) (k : Nat) (hk : k < o.length) (q : Nat) (e : o[k] = q) : marksGo ns l offs (o.drop k) M = marksGo ns l offs (o.drop (k + 1)) ((chansOf ns).foldl (chStep (tasksOf ns) q) (nodeBase ns l offs M q (M.getD q []).length)) := by
  unfold marksGo
  rw [List.drop_eq_getElem_cons hk, List.foldl_cons, e]; rfl
theorem nodeBase_zero (ns : List Node) (l : Logs) (offs : List (List Int)) (M : List (List Int)) (q : Nat) (hq : q < M.length) : nodeBase ns l offs M q 0 = M := by
  unfold nodeBase
  rw [rowTo_zero, getD_at M q hq, List.set_getElem_self]
theorem nodeBase_succ (ns : List Node) (l : Logs) (offs : List (List Int)) (M : List (List Int)) (q p : Nat) (hq : q < M.length) : setM (nodeBase ns l offs M q p) q p (baseOf ns l offs q p) = nodeBase ns l offs M q (p + 1) := by
  have h := getD_at (M.set q (rowTo (M.getD q []) (baseOf ns l offs q) p)) q (by rw [List.length_set]; exact hq)
  unfold setM nodeBase
  rw [h, List.getElem_set_self, List.set_set, rowTo_succ]
theorem setM_setM (M : List (List Int)) (q p : Nat) (a b : Int) (hq : q < M.length) : setM (setM M q p a) q p b = setM M q p b := by
  unfold setM
  rw [getD_at (M.set q _) q (by rw [List.length_set]; exact hq), List.getElem_set_self, List.set_set, List.set_set]
theorem getM_setM (M : List (List Int)) (q p : Nat) (a : Int) (hq : q < M.length) (hp : p < M[q].length) : getM (setM M q p a) q p = a := by
  unfold setM
  rw [getM_at _ q p (by rw [List.length_set]; exact hq) (by rw [List.getElem_set_self, List.length_set, getD_at M q hq]; exact hp)]
  simp
theorem Shape.base {ns : List Node} {M : List (List Int)} (h : Shape ns M) (l : Logs) (offs : List (List Int)) (q p : Nat) : Shape ns (nodeBase ns l offs M q p) := by
  unfold nodeBase
  refine h.set q _ (fun hq => ?_)
  have hq2 : q < M.length := by rw [h.len]; exact hq
  rw [rowTo_len, getD_at M q hq2]
  exact h.row q hq2 hq
theorem Shape.step {ns : List Node} {M : List (List Int)} (h : Shape ns M) (T : List Task) (q : Nat) (c : Chan) : Shape ns (chStep T q M c) := by
  unfold chStep
  split
  · exact h.setM _ _ _
  · exact h
theorem Shape.fold {ns : List Node} (T : List Task) (q : Nat) : ∀ (C : List Chan) {M : List (List Int)}, Shape ns M → Shape ns (C.foldl (chStep T q) M)
  | [], _, h => h
  | c :: C, _, h => Shape.fold T q C (h.step T q c)
theorem Shape.zeros (ns : List Node) : Shape ns (zeros ns) := by
  unfold Go.Proofs.YtkffjbijamfnoaaGreat.zeros
  exact ⟨by simp, fun j h1 h2 => by simp⟩
theorem fold_take (T : List Task) (q : Nat) (C : List Chan) (M : List (List Int)) (j : Nat) (hj : j < C.length) : (C.take (j + 1)).foldl (chStep T q) M = chStep T q ((C.take j).foldl (chStep T q) M) C[j] := by
  rw [List.take_succ_eq_append_getElem hj, List.foldl_append]; rfl
theorem tasks_in {ns : List Node} {x : Task} (h : x ∈ tasksOf ns) : ∃ i p : Nat, x = ⟨i, p⟩ ∧ ∃ hi : i < ns.length, (p : Int) < ns[i].par := by
  unfold tasksOf at h
  obtain ⟨a, ha, hx⟩ := List.mem_flatten.1 h
  obtain ⟨i, hi, rfl⟩ := List.mem_mapIdx.1 ha
  unfold nodeTasks at hx
  obtain ⟨p, hp, rfl⟩ := List.mem_map.1 hx
  rw [List.mem_range] at hp
  exact ⟨i, p, rfl, hi, by omega⟩
theorem chans_in {ns : List Node} {c : Chan} (h : c ∈ chansOf ns) : ∃ f g x : Nat, c = ⟨f, g, x⟩ ∧ f < (tasksOf ns).length ∧ g < (tasksOf ns).length := by
  unfold chansOf at h
  obtain ⟨a, ha, hx⟩ := List.mem_flatten.1 h
  obtain ⟨i, hi, rfl⟩ := List.mem_mapIdx.1 ha
  unfold nodeChans at hx
  obtain ⟨b, hb, hx⟩ := List.mem_flatten.1 hx
  obtain ⟨x, hx0, rfl⟩ := List.mem_mapIdx.1 hb
  unfold chanIn at hx
  obtain ⟨f, hf, hx⟩ := List.mem_flatMap.1 hx
  obtain ⟨g, hg, hx⟩ := List.mem_flatMap.1 hx
  obtain ⟨f', rfl, hf', _⟩ := idxs_in hf
  obtain ⟨g', rfl, hg', _⟩ := idxs_in hg
  unfold chanTo at hx
  split at hx
  · exact ⟨f', g', x, List.mem_singleton.1 hx, hf', hg'⟩
  · cases hx
theorem chStep_at {T : List Task} {f t x tn tp fn fp : Nat} (hta : taskAt T t = ⟨tn, tp⟩) (hfa : taskAt T f = ⟨fn, fp⟩) (q : Nat) (M : List (List Int)) : chStep T q M ⟨f, t, x⟩ = if (tn : Int) = (q : Int) then setM M q tp (min (getM M q tp) (getM M fn fp)) else M := by
  unfold chStep
  dsimp only
  rw [hta, hfa]; rfl
theorem flat_mapIdx_len {α β : Type} {b : Nat} : ∀ (l : List α) (f : Nat → α → List β), (∀ i, ∀ x ∈ l, (f i x).length ≤ b) → ((l.mapIdx f).flatten).length ≤ b * l.length
  | [], _, _ => by simp
  | x :: l, f, h => by
    have h1 := flat_mapIdx_len l (fun i => f (i + 1)) (fun i y hy => h (i + 1) y (List.mem_cons_of_mem _ hy))
    have h2 := h 0 x (List.mem_cons_self ..)
    rw [List.mapIdx_cons, List.flatten_cons, List.length_append, List.length_cons, Nat.mul_add]; omega
theorem chans_len {ns : List Node} (hn : ns.length ≤ 12) (hi : ∀ x ∈ ns, x.ins.length ≤ 4) : (chansOf ns).length ≤ 120000 := by
  have ht := tasks_len ns
  have h1 : ∀ (i : Nat) (n : Node) (x : Nat) (k : Int), (chanIn ns (tasksOf ns) i n x k).length ≤ 2304 := fun i n x k => by
    have a := idxs_len (isOf k) (tasksOf ns)
    have b := idxs_len (isOf i) (tasksOf ns)
    have e := flatMap_len (k := 48) (f := fun f => (idxs (isOf i) (tasksOf ns)).flatMap (chanTo (tasksOf ns) (allOf ns n k) x f)) (idxs (isOf k) (tasksOf ns)) (fun f _ => by
      have := flatMap_len (k := 1) (f := chanTo (tasksOf ns) (allOf ns n k) x f) (idxs (isOf i) (tasksOf ns)) (fun t _ => chanTo_len ..)
      omega)
    unfold chanIn
    omega
  have h2 : ∀ (i : Nat), ∀ n ∈ ns, (nodeChans ns (tasksOf ns) i n).length ≤ 9216 := fun i n hn => by
    have := flat_mapIdx_len n.ins (chanIn ns (tasksOf ns) i n) (fun x k _ => h1 i n x k)
    have := hi n hn
    unfold nodeChans
    omega
  have := flat_mapIdx_len ns (nodeChans ns (tasksOf ns)) h2
  unfold chansOf
  omega
theorem zeros_take (ns : List Node) (k : Nat) (hk : k < ns.length) : zeros (ns.take (k + 1)) = zeros (ns.take k) ++ [List.replicate ns[k].par.toNat 0] := by
  unfold zeros
  rw [List.take_succ_eq_append_getElem hk, List.map_append]; rfl
theorem slOf_step (gs : List (Nat × Nat)) (ns : List Node) (k : Nat) (hk : k < ns.length) (hg : gs.length = k) (g : Nat × Nat) (z : Sl) : slOf (gs ++ [g]) (ns.take (k + 1)) ++ List.replicate (ns.length - (k + 1)) z = (slOf gs (ns.take k) ++ List.replicate (ns.length - k) z).set k ((some ⟨g.1, 0, none⟩, (List.replicate ns[k].par.toNat (0 : Int)).length, g.2) : Sl) := by
  have h1 : slOf (gs ++ [g]) (ns.take (k + 1)) = slOf gs (ns.take k) ++ [(some ⟨g.1, 0, none⟩, ns[k].par.toNat, g.2)] := by
    unfold slOf
    rw [List.take_succ_eq_append_getElem hk, List.zipWith_append (by rw [List.length_take]; omega)]; rfl
  have h2 : (slOf gs (ns.take k)).length = k := by rw [slOf_len _ _ (by rw [List.length_take]; omega), List.length_take]; omega
  rw [h1, List.set_append_right _ _ (by omega), h2, Nat.sub_self, show ns.length - k = (ns.length - (k + 1)) + 1 by omega, List.replicate_succ, List.set_cons_zero, List.append_assoc, List.length_replicate]; rfl

theorem meanmarks_calls (m : Nat → Prop) (J A O : Option Addr) (jc c oc : Nat) (ns : List Node) (l : Logs) (offs : List (List Int)) (w : World) (hr : Ro m w (fun w => kNode.Row w J ns ∧ kParts.Row w A l ∧ (Kn.slice kInt).Row w O offs)) (hjc : ns.length ≤ jc) (hc : l.length ≤ c) (hs : ∀ x ∈ ns, x.e.count ≤ 1099511627776) :
    Calls Tryz.prog 39 #[.agg #[.slice J ns.length jc], .slice A l.length c, .slice O offs.length oc] w (PostR m w (Kn.slice kInt) (meanMarks ns l offs)) := by
  refine calls_of_Wc (args := [.agg #[.slice J ns.length jc], .slice A l.length c, .slice O offs.length oc]) 161 Tryz.func39 rfl rfl (by simp) ?_
  refine Wc.start hr ?_
  refine Wc.seq ?_
  refine Wc.region ?_
  refine Wl.box rfl rfl rfl (fun b3 => ?_)
  refine Wl.assign rfl rfl ?_
  refine Wl.nil ?_
  refine Wx.then_n ?_
  refine Wc.seq ?_
  refine Wc.seq ?_
  refine Wc.region ?_
  refine Wl.loadbw 0 t34 rfl rfl rfl rfl ?_
  refine Wl.move rfl rfl ?_
  refine Wl.callV [_, _] Tryz.func81 rfl rfl rfl rfl (fun w hw => right14_calls _ J A jc c ns l w (hw.read fun w h => ⟨h.1, h.2.1⟩) hjc hc hs) ?_
  refine Wl.not rfl rfl ?_
  refine Wl.nil ?_
  refine Wx.then_n ?_
  refine Wc.cond rfl (fun h23 => ?_) (fun h23 => ?_)
  ·
    refine Wc.seq ?_
    refine Wc.region ?_
    refine Wl.assign rfl rfl ?_
    refine Wl.nil ?_
    refine Wx.then_n ?_
    refine Wc.ret ?_
    refine Wx.then_r ?_
    rw [show meanMarks ns l offs = [] by unfold meanMarks; rw [if_neg (by simpa using h23)]]
    exact Wx.retRR none 0 rfl rfl (Nat.le_refl _) (fun w h => nil_row _ _)
  ·
    have hro : rightOk ns l = true := by simpa using h23
    rw [show meanMarks ns l offs = marksAll ns l offs by unfold meanMarks; rw [if_pos hro]]
    obtain ⟨hj, hl⟩ := rightOk_iff.1 hro
    obtain ⟨⟨hn1, hn12⟩, hz, hol, hwt⟩ := job_facts hj
    obtain ⟨hom, _⟩ := order_mem ns
    obtain ⟨hll, hlp⟩ := logs_facts hl
    have hin : ∀ x ∈ ns, (∀ k ∈ x.ins, 0 ≤ k ∧ k < ns.length) ∧ (1 ≤ x.par ∧ x.par ≤ 4) ∧ x.ins.length ≤ 4 := fun x hx => ⟨(ins_facts (node_facts (hz x hx)).2.1).1, (node_facts (hz x hx)).2.2.1, (ins_ok (node_facts (hz x hx)).2.1).1⟩
    refine Wc.skip ?_
    refine Wx.then_n ?_
    refine Wc.seq ?_
    refine Wc.region ?_
    refine Wl.fld ⟨_, 0, none⟩ fl34_0 rfl rfl rfl ?_
    refine Wl.loadb 0 0 t32 rfl rfl rfl rfl ?_
    refine Wl.len Tryz.underlying32 rfl rfl ?_
    refine Wl.mk (enc := eSl) ((none, 0, 0) : Sl) Tryz.underlying85 t52 rfl rfl rfl rfl rfl (by omega) (by omega) (fun v27 => ?_)
    refine Wl.assign rfl rfl ?_
    refine Wl.nil ?_
    refine Wx.then_n ?_
    refine Wc.seq ?_
    refine Wc.seq ?_
    refine Wc.form 1 rfl (fun A27 co e27 hco hA27 => ?_)
    rw [List.length_replicate] at e27 hco hA27
    obtain ⟨go, rfl⟩ := hA27 (by omega)
    subst e27
    refine Wc.region ?_
    refine Wl.fld ⟨_, 0, none⟩ fl34_0 rfl rfl rfl ?_
    refine Wl.loadb 0 0 t32 rfl rfl rfl rfl ?_
    refine Wl.len Tryz.underlying32 rfl rfl ?_
    refine Wl.move rfl rfl ?_
    refine Wl.nil ?_
    refine Wx.then_n ?_
    refine Wc.block ?_
    refine Wc.loopS (G := List (Nat × Nat) × Nat) (fun g => match g with | ⟨gs, k⟩ => [(1, .slice A l.length c), (2, .slice O offs.length oc), (3, .pointer (some ⟨b3, 0, none⟩)), (7, .slice (some ⟨go, 0, none⟩) ns.length co), (29, .slice J ns.length jc), (30, .int .i64 ns.length), (31, .int .i64 k)]) (fun g => match g with | ⟨gs, k⟩ => k ≤ ns.length ∧ gs.length = k) (fun g => match g with | ⟨gs, k⟩ => [.box b3 [.slice J ns.length jc] 34, rowOf eSl (.slice (some ⟨go, 0, none⟩) ns.length co) 52 1 (slOf gs (ns.take k) ++ List.replicate (ns.length - k) ((none, 0, 0) : Sl))] ++ innB gs (zeros (ns.take k))) (fun g => match g with | ⟨gs, k⟩ => fun w => (kNode.Row w J ns ∧ kParts.Row w A l ∧ (Kn.slice kInt).Row w O offs)) (fun g => match g with | ⟨gs, k⟩ => ns.length - k) ⟨[], 0⟩ ⟨rfl, rfl, rfl, rfl, rfl, rfl, rfl, trivial⟩ ⟨Nat.zero_le _, rfl⟩ (fun w hw => hw) ?_
    rintro ⟨gs, k⟩ ⟨hk0, hgk⟩
    dsimp only
    refine Wc.seq ?_
    refine Wc.region ?_
    refine Wl.lss rfl rfl rfl ?_
    refine Wl.nil ?_
    refine Wx.then_n ?_
    refine Wc.seq ?_
    refine Wc.condp rfl (fun h32 => ?_) (fun h32 => ?_)
    ·
      have hk : k < ns.length := by omega
      have hpar := (hin _ (List.getElem_mem hk)).2.1
      have hzl : (zeros (ns.take k)).length = k := by unfold zeros; rw [List.length_map, List.length_take]; omega
      have hsl : (slOf gs (ns.take k) ++ List.replicate (ns.length - k) ((none, 0, 0) : Sl)).length = ns.length := by rw [List.length_append, slOf_len _ _ (by rw [List.length_take]; omega), List.length_replicate, List.length_take]; omega
      refine Wc.pure (p := ∃ ad, J = some ad) (fun w hw => hw.addr (fun w h => h.1) (by omega)) ?_
      rintro ⟨jd, rfl⟩
      refine Wc.exS (fun w hw => hw.node_get (fun w h => h.1) k hk) ?_
      rintro ⟨⟨A2, c2⟩, A4, c4⟩ hcc2
      dsimp only at hcc2 ⊢
      refine Wc.skip ?_
      refine Wx.then_n ?_
      refine Wc.seq ?_
      refine Wc.block ?_
      refine Wc.seq ?_
      refine Wc.region ?_
      refine Wl.move rfl rfl ?_
      refine Wl.idx Tryz.underlying32 t31 rfl rfl rfl hk ?_
      refine Wl.loadrw (cs := (nodeCells ns[k] ((A2, c2), (A4, c4)))) t31 (fun w h => h.2.1) rfl rfl rfl ?_
      refine Wl.alloc t31 rfl rfl (fun b9 => ?_)
      refine Wl.heap (fun w hw => hw.perm (perm_last _ _ _)) ?_
      refine Wl.assign rfl rfl ?_
      refine Wl.storew 2 t31 rfl rfl rfl rfl rfl rfl rfl ?_
      refine Wl.nil ?_
      refine Wx.then_n ?_
      refine Wc.region ?_
      refine Wl.move rfl rfl ?_
      refine Wl.move rfl rfl ?_
      refine Wl.fld ⟨_, 2, none⟩ fl31_2 rfl rfl rfl ?_
      refine Wl.loadb 2 2 t3 rfl rfl rfl rfl ?_
      refine Wl.mk (enc := eInt) (k := ns[k].par.toNat) (0 : Int) Tryz.underlying52 t2 (congrArg (fun z => some (Value.int .i64 z)) (show ns[k].par = ((ns[k].par.toNat : Nat) : Int) by omega)) (congrArg (fun z => some (Value.int .i64 z)) (show ns[k].par = ((ns[k].par.toNat : Nat) : Int) by omega)) rfl rfl rfl (by omega) (by omega) (fun v40 => ?_)
      refine Wl.front [.box b3 [.slice (some jd) ns.length jc] 34, rowOf eSl (.slice (some ⟨go, 0, none⟩) ns.length co) 52 1 (slOf gs (ns.take k) ++ List.replicate (ns.length - k) ((none, 0, 0) : Sl)), .box b9 (nodeCells ns[k] ((A2, c2), (A4, c4))) 31] (innB gs (zeros (ns.take k))) _ rfl ?_
      refine Wl.form 3 rfl (fun A40 c40 e40 hc40 hA40 => ?_)
      obtain ⟨g40, rfl⟩ := hA40 (by rw [List.length_replicate]; omega)
      subst e40
      refine Wl.idx (j := k) Tryz.underlying85 t52 rfl rfl rfl hk ?_
      refine Wl.storee 1 (k) 0 (((some ⟨g40, 0, none⟩, (List.replicate ns[k].par.toNat (0 : Int)).length, c40) : Sl)) t52 rfl rfl rfl hsl (fun _ => rfl) rfl rfl rfl (by omega) (addr_at _ _) (Nat.le_of_ble_eq_true rfl) rfl ?_
      refine Wl.nil ?_
      refine Wx.block_n ?_
      refine Wx.then_n ?_
      refine Wc.region ?_
      refine Wl.add rfl rfl rfl (by omega) ?_
      refine Wl.move rfl rfl ?_
      refine Wl.nil ?_
      exact Wx.againS ⟨gs ++ [(g40, c40)], k + 1⟩ (by (try dsimp only); omega) ⟨rfl, rfl, rfl, rfl, rfl, rfl, rfl, trivial⟩ ⟨hk, by (try dsimp only); rw [List.length_append, hgk]; rfl⟩ (fun w hw => by (try dsimp only); rw [slOf_step gs ns k hk hgk (g40, c40), zeros_take ns k hk, ← innB_snoc gs _ (by rw [hzl]; exact hgk) (g40, c40)]; exact ((hw.drop 2).perm (.cons _ (.cons _ (List.perm_append_singleton _ _).symm))).imp fun w h => h.1)
    ·
      obtain rfl : k = ns.length := by omega
      rw [List.take_length, Nat.sub_self, List.replicate_zero, List.append_nil]
      refine Wc.exit ?_
      refine Wx.then_e ?_
      refine Wx.then_e ?_
      refine Wx.block_e ?_
      refine Wx.then_n ?_
      refine Wc.seq ?_
      refine Wc.region ?_
      refine Wl.loadbw 0 t34 rfl rfl rfl rfl ?_
      refine Wl.callS [_] Tryz.func90 rfl rfl rfl rfl (fun w hw => make_calls _ J jc ns w (hw.read fun w h => h.1) hjc hn12 hin) (fun g44 hg44 => ?_)
      obtain ⟨⟨TA, tc⟩, CA, cc⟩ := g44
      dsimp only at hg44 ⊢
      refine Wl.heap (fun w hw => by rw [List.append_nil] at hw; exact hw) ?_
      refine Wl.alloc t42 rfl rfl (fun b10 => ?_)
      refine Wl.heap (fun w hw => hw.perm (perm_last _ _ _)) ?_
      refine Wl.storew 2 t42 rfl rfl rfl rfl rfl rfl rfl ?_
      refine Wl.nil ?_
      refine Wx.then_n ?_
      refine Wc.seq ?_
      refine Wc.seq ?_
      refine Wc.region ?_
      refine Wl.loadbw 0 t34 rfl rfl rfl rfl ?_
      refine Wl.callO [_] Tryz.func91 rfl rfl rfl rfl (fun w hw => order_calls _ J jc ns w (hw.read fun w h => h.1.1) hjc (by omega)) (fun v46 => ?_)
      refine Wl.front [.box b3 [.slice J ns.length jc] 34, rowOf eSl (.slice (some ⟨go, 0, none⟩) ns.length co) 52 1 (slOf gs ns), .box b10 [.slice TA (tasksOf ns).length tc, .slice CA (chansOf ns).length cc] 42] (innB gs (zeros ns)) _ rfl ?_
      refine Wl.form 3 rfl (fun A46 c46 e46 hc46 _ => ?_)
      subst e46
      refine Wl.freeze 3 rfl ?_
      refine Wl.freeze 1 rfl ?_
      refine Wl.heap (H' := St w (fun _ => False) m ([.box b3 [.slice J ns.length jc] 34, .box b10 [.slice TA (tasksOf ns).length tc, .slice CA (chansOf ns).length cc] 42] ++ innB gs (zeros ns)) (fun w => (kNode.Row w J ns ∧ kParts.Row w A l ∧ (Kn.slice kInt).Row w O offs) ∧ (rowOf eSl (.slice (some ⟨go, 0, none⟩) ns.length co) 52 1 (slOf gs ns)).holds w ∧ (kTask.Row w TA (tasksOf ns) ∧ kChan.Row w CA (chansOf ns)) ∧ kInt.Row w A46 (order ns))) (fun w hw => hw.imp fun w h => ⟨h.1.1.1, h.2, h.1.1.2, row_holds h.1.2⟩) ?_
      refine Wl.len Tryz.underlying24 rfl rfl ?_
      refine Wl.move rfl rfl ?_
      refine Wl.nil ?_
      refine Wx.then_n ?_
      refine Wc.block ?_
      refine Wc.loopS (G := List (List Int) × Nat) (fun g => match g with | ⟨M, k⟩ => [(1, .slice A l.length c), (2, .slice O offs.length oc), (3, .pointer (some ⟨b3, 0, none⟩)), (7, .slice (some ⟨go, 0, none⟩) ns.length co), (10, .pointer (some ⟨b10, 0, none⟩)), (46, .slice A46 (order ns).length c46), (47, .int .i64 (order ns).length), (48, .int .i64 k)]) (fun g => match g with | ⟨M, k⟩ => k ≤ (order ns).length ∧ Shape ns M ∧ marksAll ns l offs = marksGo ns l offs ((order ns).drop k) M) (fun g => match g with | ⟨M, k⟩ => [.box b3 [.slice J ns.length jc] 34, .box b10 [.slice TA (tasksOf ns).length tc, .slice CA (chansOf ns).length cc] 42] ++ innB gs M) (fun g => match g with | ⟨M, k⟩ => fun w => (kNode.Row w J ns ∧ kParts.Row w A l ∧ (Kn.slice kInt).Row w O offs) ∧ (rowOf eSl (.slice (some ⟨go, 0, none⟩) ns.length co) 52 1 (slOf gs ns)).holds w ∧ (kTask.Row w TA (tasksOf ns) ∧ kChan.Row w CA (chansOf ns)) ∧ kInt.Row w A46 (order ns)) (fun g => match g with | ⟨M, k⟩ => (order ns).length - k) ⟨zeros ns, 0⟩ ⟨rfl, rfl, rfl, rfl, rfl, rfl, rfl, rfl, trivial⟩ ⟨Nat.zero_le _, Shape.zeros ns, rfl⟩ (fun w hw => hw) ?_
      rintro ⟨M, k⟩ ⟨hk0, hsh, hma⟩
      dsimp only
      refine Wc.seq ?_
      refine Wc.region ?_
      refine Wl.lss rfl rfl rfl ?_
      refine Wl.nil ?_
      refine Wx.then_n ?_
      refine Wc.seq ?_
      refine Wc.condp rfl (fun h49 => ?_) (fun h49 => ?_)
      ·
        have hk : k < (order ns).length := by omega
        refine Wc.pure (p := ∃ ad, A46 = some ad) (fun w hw => hw.addr (fun w h => h.2.2.2) (by omega)) ?_
        rintro ⟨ad46, rfl⟩
        obtain ⟨hg0, hg1⟩ := hom _ (List.getElem_mem hk)
        obtain ⟨q, hgi⟩ : ∃ q : Nat, (order ns)[k] = q := ⟨((order ns)[k]).toNat, by omega⟩
        have hq : q < ns.length := by omega
        have hqM : q < M.length := by rw [hsh.len]; exact hq
        have hrow := hsh.row q hqM hq
        have hpar := (hin _ (List.getElem_mem hq)).2.1
        rw [marksGo_drop ns l offs (order ns) M k hk q hgi, getD_at M q hqM, hrow] at hma
        obtain ⟨⟨g, cp⟩, hgq⟩ : ∃ g, gs[q]? = some g := ⟨_, List.getElem?_eq_getElem (by omega)⟩
        have hpq := slOf_get hgq hq (by rw [slOf_len gs ns hgk]; omega)
        try dsimp only at hpq
        refine Wc.pure (p := ∃ ad, J = some ad) (fun w hw => hw.addr (fun w h => h.1.1) (by omega)) ?_
        rintro ⟨jd, rfl⟩
        refine Wc.exS (fun w hw => hw.node_get (fun w h => h.1.1) q hq) ?_
        rintro ⟨⟨A2, c2⟩, A4, c4⟩ hcc2
        dsimp only at hcc2 ⊢
        refine Wc.skip ?_
        refine Wx.then_n ?_
        refine Wc.seq ?_
        refine Wc.block ?_
        refine Wc.seq ?_
        refine Wc.region ?_
        refine Wl.idx Tryz.underlying24 t3 rfl rfl rfl hk ?_
        refine Wl.loadr (j := 0) (cs := eInt (order ns)[k]) t3 (fun w h => h.1.2.2.2.cells k hk) rfl rfl (Addr.add_zero' _).symm rfl ?_
        refine Wl.assign rfl rfl ?_
        refine Wl.nil ?_
        refine Wx.then_n ?_
        refine Wc.seq ?_
        refine Wc.seq ?_
        rw [hgi]
        refine Wc.region ?_
        refine Wl.move rfl rfl ?_
        refine Wl.move rfl rfl ?_
        refine Wl.idx (j := q) Tryz.underlying85 t52 rfl rfl rfl (by omega) ?_
        refine Wl.loadr (j := 0) (cs := (eSl (some ⟨g, 0, none⟩, ns[q].par.toNat, cp))) t52 (fun w h => hpq ▸ (show kSl.Row w (some ⟨go, 0, none⟩) (slOf gs ns) from row_holds h.1.2.1).cells q (by rw [slOf_len gs ns hgk]; omega)) rfl rfl (Addr.add_zero' _).symm rfl ?_
        refine Wl.len Tryz.underlying52 rfl rfl ?_
        refine Wl.move rfl rfl ?_
        refine Wl.nil ?_
        refine Wx.then_n ?_
        refine Wc.block ?_
        refine Wc.loopS (G := Nat) (fun g => match g with | p => [(1, .slice A l.length c), (2, .slice O offs.length oc), (3, .pointer (some ⟨b3, 0, none⟩)), (7, .slice (some ⟨go, 0, none⟩) ns.length co), (10, .pointer (some ⟨b10, 0, none⟩)), (46, .slice (some ad46) (order ns).length c46), (47, .int .i64 (order ns).length), (48, .int .i64 k), (12, .int .i64 q), (56, .int .i64 ns[q].par.toNat), (57, .int .i64 p)]) (fun g => match g with | p => p ≤ ns[q].par.toNat) (fun g => match g with | p => [.box b3 [.slice (some jd) ns.length jc] 34, .box b10 [.slice TA (tasksOf ns).length tc, .slice CA (chansOf ns).length cc] 42] ++ innB gs (nodeBase ns l offs M q p)) (fun g => match g with | p => fun w => ((kNode.Row w (some jd) ns ∧ kParts.Row w A l ∧ (Kn.slice kInt).Row w O offs) ∧ (rowOf eSl (.slice (some ⟨go, 0, none⟩) ns.length co) 52 1 (slOf gs ns)).holds w ∧ (kTask.Row w TA (tasksOf ns) ∧ kChan.Row w CA (chansOf ns)) ∧ kInt.Row w (some ad46) (order ns)) ∧ Cells w (jd.add (q * 10)) (nodeCells ns[q] ((A2, c2), (A4, c4))) ∧ kInt.Row w A2 ns[q].ins ∧ kExpr.Row w A4 ns[q].e.l) (fun g => match g with | p => ns[q].par.toNat - p) 0 ⟨rfl, rfl, rfl, rfl, rfl, rfl, rfl, rfl, rfl, rfl, rfl, trivial⟩ (Nat.zero_le _) (fun w hw => by (try dsimp only); rw [nodeBase_zero ns l offs M q hqM]; exact hw) ?_
        rintro p hp0
        dsimp only
        refine Wc.seq ?_
        refine Wc.region ?_
        refine Wl.lss rfl rfl rfl ?_
        refine Wl.nil ?_
        refine Wx.then_n ?_
        refine Wc.seq ?_
        refine Wc.condp rfl (fun h58 => ?_) (fun h58 => ?_)
        ·
          have hp : p < ns[q].par.toNat := by omega
          have hshp := hsh.base l offs q p
          have hqP : q < (nodeBase ns l offs M q p).length := by rw [hshp.len]; exact hq
          have hpP : p < ((nodeBase ns l offs M q p)[q]).length := by rw [hshp.row q hqP hq]; exact hp
          have hbs := nodeBase_succ ns l offs M q p hqM
          refine Wc.skip ?_
          refine Wx.then_n ?_
          refine Wc.seq ?_
          refine Wc.block ?_
          refine Wc.seq ?_
          refine Wc.region ?_
          refine Wl.move rfl rfl ?_
          refine Wl.assign rfl rfl ?_
          refine Wl.nil ?_
          refine Wx.then_n ?_
          refine Wc.seq ?_
          refine Wc.seq ?_
          refine Wc.region ?_
          refine Wl.fld ⟨_, 0, none⟩ fl34_0 rfl rfl rfl ?_
          refine Wl.loadb 0 0 t32 rfl rfl rfl rfl ?_
          refine Wl.move rfl rfl ?_
          refine Wl.idx Tryz.underlying32 t31 rfl rfl rfl hq ?_
          refine Wl.fld _ fl31_0 rfl rfl rfl ?_
          refine Wl.loadr (j := 0) (cs := (nodeCells ns[q] ((A2, c2), (A4, c4)))) t3 (fun w h => h.2.1) rfl rfl rfl rfl ?_
          refine Wl.neq rfl rfl rfl ?_
          refine Wl.nil ?_
          refine Wx.then_n ?_
          refine Wc.condp rfl (fun h66 => ?_) (fun h66 => ?_)
          ·
            refine Wc.seq ?_
            refine Wc.region ?_
            refine Wl.move rfl rfl ?_
            refine Wl.move rfl rfl ?_
            refine Wl.idx (j := q) Tryz.underlying85 t52 rfl rfl rfl (by omega) ?_
            refine Wl.loadr (j := 0) (cs := (eSl (some ⟨g, 0, none⟩, ns[q].par.toNat, cp))) t52 (fun w h => hpq ▸ (show kSl.Row w (some ⟨go, 0, none⟩) (slOf gs ns) from row_holds h.1.2.1).cells q (by rw [slOf_len gs ns hgk]; omega)) rfl rfl (Addr.add_zero' _).symm rfl ?_
            refine Wl.move rfl rfl ?_
            refine Wl.idx (j := p) Tryz.underlying52 t2 rfl rfl rfl (by omega) ?_
            refine Wl.storeI (q := q) (p := p) (v := 9223372036854775807) (g := (g, cp)) t2 rfl rfl hgq hqP hpP ?_
            refine Wl.nil ?_
            refine Wx.then_n ?_
            refine Wc.exit ?_
            refine Wx.then_e ?_
            refine Wx.block_e ?_
            refine Wx.then_n ?_
            refine Wc.region ?_
            refine Wl.add rfl rfl rfl (by omega) ?_
            refine Wl.move rfl rfl ?_
            refine Wl.nil ?_
            have hbf : baseOf ns l offs q p = 9223372036854775807 := by unfold baseOf; rw [if_pos (by rw [List.getElem?_eq_getElem hq]; exact h66)]
            rw [hbf] at hbs
            exact Wx.againS (p + 1) (by omega) ⟨rfl, rfl, rfl, rfl, rfl, rfl, rfl, rfl, rfl, rfl, rfl, trivial⟩ hp (fun w hw => by (try dsimp only); rw [← hbs]; exact hw)
          ·
            have hk1 : ns[q].kind = 1 := Decidable.not_not.1 h66
            have hq2 : q < l.length := by omega
            have hpl : p < l[q].length := by have := (hlp q hq hq2).1; unfold wantParts at this; rw [if_pos hk1] at this; omega
            have hbf : baseOf ns l offs q p = markOf (readPart offs q p l[q][p]) := by unfold baseOf; rw [if_neg (by rw [List.getElem?_eq_getElem hq]; exact h66), List.getElem?_eq_getElem hq2, Option.getD_some, List.getElem?_eq_getElem hpl]; rfl
            have hrl : (readPart offs q p l[q][p]).length ≤ 4096 := Nat.le_trans (readPart_len ..) ((hlp q hq hq2).2 _ (List.getElem_mem hpl)).1
            refine Wc.skip ?_
            refine Wx.then_n ?_
            refine Wc.seq ?_
            refine Wc.region ?_
            refine Wl.move rfl rfl ?_
            refine Wl.move rfl rfl ?_
            refine Wl.idx (j := q) Tryz.underlying85 t52 rfl rfl rfl (by omega) ?_
            refine Wl.loadr (j := 0) (cs := (eSl (some ⟨g, 0, none⟩, ns[q].par.toNat, cp))) t52 (fun w h => hpq ▸ (show kSl.Row w (some ⟨go, 0, none⟩) (slOf gs ns) from row_holds h.1.2.1).cells q (by rw [slOf_len gs ns hgk]; omega)) rfl rfl (Addr.add_zero' _).symm rfl ?_
            refine Wl.move rfl rfl ?_
            refine Wl.idx (j := p) Tryz.underlying52 t2 rfl rfl rfl (by omega) ?_
            refine Wl.storeI (q := q) (p := p) (v := (-9223372036854775808)) (g := (g, cp)) t2 rfl rfl hgq hqP hpP ?_
            refine Wl.nil ?_
            refine Wx.then_n ?_
            refine Wc.seq ?_
            refine Wc.region ?_
            refine Wl.move rfl rfl ?_
            refine Wl.move rfl rfl ?_
            refine Wl.move rfl rfl ?_
            refine Wl.move rfl rfl ?_
            refine Wl.callR [.slice A l.length c, .slice O offs.length oc, .int .i64 q, .int .i64 p] Tryz.func92 rfl rfl rfl rfl (fun w hw => read_calls _ A O c oc l offs q p hq2 hpl w (hw.read fun w h => h.1.1.2)) (fun A83 c83 hc83 => ?_)
            refine Wl.len Tryz.underlying22 rfl rfl ?_
            refine Wl.move rfl rfl ?_
            refine Wl.nil ?_
            refine Wx.then_n ?_
            refine Wc.block ?_
            refine Wc.loopS (G := Nat) (fun g => match g with | n => [(1, .slice A l.length c), (2, .slice O offs.length oc), (3, .pointer (some ⟨b3, 0, none⟩)), (7, .slice (some ⟨go, 0, none⟩) ns.length co), (10, .pointer (some ⟨b10, 0, none⟩)), (46, .slice (some ad46) (order ns).length c46), (47, .int .i64 (order ns).length), (48, .int .i64 k), (12, .int .i64 q), (56, .int .i64 ns[q].par.toNat), (57, .int .i64 p), (13, .int .i64 p), (83, .slice A83 (readPart offs q p l[q][p]).length c83), (84, .int .i64 (readPart offs q p l[q][p]).length), (85, .int .i64 n)]) (fun g => match g with | n => n ≤ (readPart offs q p l[q][p]).length) (fun g => match g with | n => [.box b3 [.slice (some jd) ns.length jc] 34, .box b10 [.slice TA (tasksOf ns).length tc, .slice CA (chansOf ns).length cc] 42] ++ innB gs (setM (nodeBase ns l offs M q p) q p (maxTo (readPart offs q p l[q][p]) n))) (fun g => match g with | n => fun w => (((kNode.Row w (some jd) ns ∧ kParts.Row w A l ∧ (Kn.slice kInt).Row w O offs) ∧ (rowOf eSl (.slice (some ⟨go, 0, none⟩) ns.length co) 52 1 (slOf gs ns)).holds w ∧ (kTask.Row w TA (tasksOf ns) ∧ kChan.Row w CA (chansOf ns)) ∧ kInt.Row w (some ad46) (order ns)) ∧ Cells w (jd.add (q * 10)) (nodeCells ns[q] ((A2, c2), (A4, c4))) ∧ kInt.Row w A2 ns[q].ins ∧ kExpr.Row w A4 ns[q].e.l) ∧ kItem.Row w A83 (readPart offs q p l[q][p])) (fun g => match g with | n => (readPart offs q p l[q][p]).length - n) 0 ⟨rfl, rfl, rfl, rfl, rfl, rfl, rfl, rfl, rfl, rfl, rfl, rfl, rfl, rfl, rfl, trivial⟩ (Nat.zero_le _) (fun w hw => hw) ?_
            rintro n hn0
            dsimp only
            refine Wc.seq ?_
            refine Wc.region ?_
            refine Wl.lss rfl rfl rfl ?_
            refine Wl.nil ?_
            refine Wx.then_n ?_
            refine Wc.seq ?_
            refine Wc.condp rfl (fun h86 => ?_) (fun h86 => ?_)
            ·
              have hn : n < (readPart offs q p l[q][p]).length := by omega
              have hms := maxTo_succ (readPart offs q p l[q][p]) n hn
              have hshn := hshp.setM q p (maxTo (readPart offs q p l[q][p]) n)
              have hqN : q < (setM (nodeBase ns l offs M q p) q p (maxTo (readPart offs q p l[q][p]) n)).length := by rw [hshn.len]; exact hq
              have hpN : p < ((setM (nodeBase ns l offs M q p) q p (maxTo (readPart offs q p l[q][p]) n))[q]).length := by rw [hshn.row q hqN hq]; exact hp
              have hss := fun b => setM_setM (nodeBase ns l offs M q p) q p (maxTo (readPart offs q p l[q][p]) n) b hqP
              have hgm := getM_setM (nodeBase ns l offs M q p) q p (maxTo (readPart offs q p l[q][p]) n) hqP hpP
              refine Wc.pure (p := ∃ ad, A83 = some ad) (fun w hw => hw.addr (fun w h => h.2) (by omega)) ?_
              rintro ⟨ad83, rfl⟩
              refine Wc.skip ?_
              refine Wx.then_n ?_
              refine Wc.seq ?_
              refine Wc.block ?_
              refine Wc.seq ?_
              refine Wc.region ?_
              refine Wl.idx Tryz.underlying22 t100 rfl rfl rfl hn ?_
              refine Wl.loadrw (cs := eItem (readPart offs q p l[q][p])[n]) t100 (fun w h => h.2.cells n hn) rfl rfl rfl ?_
              refine Wl.alloc t100 rfl rfl (fun b15 => ?_)
              refine Wl.heap (fun w hw => hw.perm (perm_last _ _ _)) ?_
              refine Wl.storew 2 t100 rfl rfl rfl rfl rfl rfl rfl ?_
              refine Wl.nil ?_
              refine Wx.then_n ?_
              refine Wc.seq ?_
              refine Wc.region ?_
              refine Wl.fld ⟨_, 0, none⟩ fl100_0 rfl rfl rfl ?_
              refine Wl.loadb 2 0 t3 rfl rfl rfl rfl ?_
              refine Wl.eql rfl rfl rfl ?_
              refine Wl.nil ?_
              refine Wx.then_n ?_
              refine Wc.condp rfl (fun h91 => ?_) (fun h91 => ?_)
              ·
                refine Wc.drawt 16 mixed (by kernel_rfl) (fun w hw => hw.drew) ?_
                refine Wl.move rfl rfl ?_
                refine Wl.move rfl rfl ?_
                refine Wl.idx (j := q) Tryz.underlying85 t52 rfl rfl rfl (by omega) ?_
                refine Wl.loadr (j := 0) (cs := (eSl (some ⟨g, 0, none⟩, ns[q].par.toNat, cp))) t52 (fun w h => hpq ▸ (show kSl.Row w (some ⟨go, 0, none⟩) (slOf gs ns) from row_holds h.1.1.2.1).cells q (by rw [slOf_len gs ns hgk]; omega)) rfl rfl (Addr.add_zero' _).symm rfl ?_
                refine Wl.move rfl rfl ?_
                refine Wl.move rfl rfl ?_
                refine Wl.move rfl rfl ?_
                refine Wl.idx (j := q) Tryz.underlying85 t52 rfl rfl rfl (by omega) ?_
                refine Wl.loadr (j := 0) (cs := (eSl (some ⟨g, 0, none⟩, ns[q].par.toNat, cp))) t52 (fun w h => hpq ▸ (show kSl.Row w (some ⟨go, 0, none⟩) (slOf gs ns) from row_holds h.1.1.2.1).cells q (by rw [slOf_len gs ns hgk]; omega)) rfl rfl (Addr.add_zero' _).symm rfl ?_
                refine Wl.move rfl rfl ?_
                refine Wl.idx (j := p) Tryz.underlying52 t2 rfl rfl rfl (by omega) ?_
                refine Wl.loadh (j := 0) (cs := (eInt (getM (setM (nodeBase ns l offs M q p) q p (maxTo (readPart offs q p l[q][p]) n)) q p))) t2 (fun w hw => inn_cells (A := [.box b3 [.slice (some jd) ns.length jc] 34, .box b10 [.slice TA (tasksOf ns).length tc, .slice CA (chansOf ns).length cc] 42, .box b15 (eItem (readPart offs q p l[q][p])[n]) 100]) hw hgq hqN hpN) rfl rfl (Addr.add_zero' _).symm rfl ?_
                refine Wl.fld ⟨_, 4, none⟩ fl100_2 rfl rfl rfl ?_
                refine Wl.loadb 2 4 t2 rfl rfl rfl rfl ?_
                refine Wl.maxi rfl rfl rfl ?_
                refine Wl.idx (j := p) Tryz.underlying52 t2 rfl rfl rfl (by omega) ?_
                refine Wl.nilt ?_
                refine Wl.storeI (q := q) (p := p) (gs := gs) (M := (setM (nodeBase ns l offs M q p) q p (maxTo (readPart offs q p l[q][p]) n))) (v := _) (g := (g, cp)) (A := [.box b3 [.slice (some jd) ns.length jc] 34, .box b10 [.slice TA (tasksOf ns).length tc, .slice CA (chansOf ns).length cc] 42, .box b15 (eItem (readPart offs q p l[q][p])[n]) 100]) t2 rfl rfl hgq hqN hpN ?_
                refine Wl.nil ?_
                refine Wx.block_n ?_
                refine Wx.then_n ?_
                refine Wc.region ?_
                refine Wl.add rfl rfl rfl (by omega) ?_
                refine Wl.move rfl rfl ?_
                refine Wl.nil ?_
                rw [hgm]
                rw [hss]
                exact Wx.againS (n + 1) (by omega) ⟨rfl, rfl, rfl, rfl, rfl, rfl, rfl, rfl, rfl, rfl, rfl, rfl, rfl, rfl, rfl, trivial⟩ hn (fun w hw => by (try dsimp only); rw [hms]; unfold markStep; rw [if_pos h91]; exact (hw.drop 2))
              ·
                refine Wc.skip ?_
                refine Wx.block_n ?_
                refine Wx.then_n ?_
                refine Wc.region ?_
                refine Wl.add rfl rfl rfl (by omega) ?_
                refine Wl.move rfl rfl ?_
                refine Wl.nil ?_
                exact Wx.againS (n + 1) (by omega) ⟨rfl, rfl, rfl, rfl, rfl, rfl, rfl, rfl, rfl, rfl, rfl, rfl, rfl, rfl, rfl, trivial⟩ hn (fun w hw => by (try dsimp only); rw [hms]; unfold markStep; rw [if_neg h91]; exact (hw.drop 2))
            ·
              refine Wc.exit ?_
              refine Wx.then_e ?_
              refine Wx.then_e ?_
              refine Wx.block_e ?_
              refine Wx.block_n ?_
              refine Wx.then_n ?_
              refine Wc.region ?_
              refine Wl.add rfl rfl rfl (by omega) ?_
              refine Wl.move rfl rfl ?_
              refine Wl.nil ?_
              obtain rfl : n = (readPart offs q p l[q][p]).length := by omega
              rw [maxTo_all, ← hbf, hbs]
              exact Wx.againS (p + 1) (by omega) ⟨rfl, rfl, rfl, rfl, rfl, rfl, rfl, rfl, rfl, rfl, rfl, trivial⟩ hp (fun w hw => hw.imp fun w h => h.1)
        ·
          obtain rfl : p = ns[q].par.toNat := by omega
          refine Wc.exit ?_
          refine Wx.then_e ?_
          refine Wx.then_e ?_
          refine Wx.block_e ?_
          refine Wx.then_n ?_
          refine Wc.seq ?_
          refine Wc.region ?_
          refine Wl.fld ⟨_, 1, none⟩ fl42_1 rfl rfl rfl ?_
          refine Wl.loadb 1 1 t40 rfl rfl rfl rfl ?_
          refine Wl.len Tryz.underlying40 rfl rfl ?_
          refine Wl.move rfl rfl ?_
          refine Wl.nil ?_
          refine Wx.then_n ?_
          refine Wc.block ?_
          refine Wc.loopS (G := Nat) (fun g => match g with | j => [(1, .slice A l.length c), (2, .slice O offs.length oc), (3, .pointer (some ⟨b3, 0, none⟩)), (7, .slice (some ⟨go, 0, none⟩) ns.length co), (10, .pointer (some ⟨b10, 0, none⟩)), (46, .slice (some ad46) (order ns).length c46), (47, .int .i64 (order ns).length), (48, .int .i64 k), (12, .int .i64 q), (111, .slice CA (chansOf ns).length cc), (112, .int .i64 (chansOf ns).length), (113, .int .i64 j)]) (fun g => match g with | j => j ≤ (chansOf ns).length) (fun g => match g with | j => [.box b3 [.slice (some jd) ns.length jc] 34, .box b10 [.slice TA (tasksOf ns).length tc, .slice CA (chansOf ns).length cc] 42] ++ innB gs (((chansOf ns).take j).foldl (chStep (tasksOf ns) q) (nodeBase ns l offs M q ns[q].par.toNat))) (fun g => match g with | j => fun w => ((kNode.Row w (some jd) ns ∧ kParts.Row w A l ∧ (Kn.slice kInt).Row w O offs) ∧ (rowOf eSl (.slice (some ⟨go, 0, none⟩) ns.length co) 52 1 (slOf gs ns)).holds w ∧ (kTask.Row w TA (tasksOf ns) ∧ kChan.Row w CA (chansOf ns)) ∧ kInt.Row w (some ad46) (order ns)) ∧ Cells w (jd.add (q * 10)) (nodeCells ns[q] ((A2, c2), (A4, c4))) ∧ kInt.Row w A2 ns[q].ins ∧ kExpr.Row w A4 ns[q].e.l) (fun g => match g with | j => (chansOf ns).length - j) 0 ⟨rfl, rfl, rfl, rfl, rfl, rfl, rfl, rfl, rfl, rfl, rfl, rfl, trivial⟩ (Nat.zero_le _) (fun w hw => hw) ?_
          rintro j hj0
          dsimp only
          refine Wc.seq ?_
          refine Wc.region ?_
          refine Wl.lss rfl rfl rfl ?_
          refine Wl.nil ?_
          refine Wx.then_n ?_
          refine Wc.seq ?_
          refine Wc.condp rfl (fun h114 => ?_) (fun h114 => ?_)
          ·
            have hjc' : j < (chansOf ns).length := by omega
            have hcl := chans_len hn12 (fun x hx => (hin x hx).2.2)
            have hfj := fold_take (tasksOf ns) q (chansOf ns) (nodeBase ns l offs M q ns[q].par.toNat) j hjc'
            obtain ⟨f, tt, x, hcj, hfl, htl⟩ := chans_in (List.getElem_mem hjc')
            obtain ⟨tn, tp, htt, htn, htp⟩ := tasks_in (List.getElem_mem htl)
            obtain ⟨fn, fp, hff, hfn, hfp⟩ := tasks_in (List.getElem_mem hfl)
            have hta : taskAt (tasksOf ns) tt = ⟨tn, tp⟩ := by unfold taskAt; rw [Int.toNat_natCast, List.getElem?_eq_getElem htl, Option.getD_some, htt]
            have hfa : taskAt (tasksOf ns) f = ⟨fn, fp⟩ := by unfold taskAt; rw [Int.toNat_natCast, List.getElem?_eq_getElem hfl, Option.getD_some, hff]
            rw [hcj, chStep_at hta hfa] at hfj
            have hshj := (hsh.base l offs q ns[q].par.toNat).fold (tasksOf ns) q ((chansOf ns).take j)
            generalize hMJ : (((chansOf ns).take j).foldl (chStep (tasksOf ns) q) (nodeBase ns l offs M q ns[q].par.toNat)) = MJ at hfj hshj ⊢
            have hqJ : q < MJ.length := by rw [hshj.len]; exact hq
            have hfJ : fn < MJ.length := by rw [hshj.len]; exact hfn
            have hrq := hshj.row q hqJ hq
            have hrf := hshj.row fn hfJ hfn
            obtain ⟨⟨g2, cp2⟩, hgf⟩ : ∃ g, gs[fn]? = some g := ⟨_, List.getElem?_eq_getElem (by omega)⟩
            have hpf := slOf_get hgf hfn (by rw [slOf_len gs ns hgk]; omega)
            try dsimp only at hpf
            refine Wc.pure (p := ∃ ad, CA = some ad) (fun w hw => hw.addr (fun w h => h.1.2.2.1.2) (by omega)) ?_
            rintro ⟨cad, rfl⟩
            refine Wc.pure (p := ∃ ad, TA = some ad) (fun w hw => hw.addr (fun w h => h.1.2.2.1.1) (by omega)) ?_
            rintro ⟨tad, rfl⟩
            refine Wc.skip ?_
            refine Wx.then_n ?_
            refine Wc.seq ?_
            refine Wc.block ?_
            refine Wc.seq ?_
            refine Wc.region ?_
            refine Wl.idx Tryz.underlying40 t118 rfl rfl rfl hjc' ?_
            refine Wl.loadrw (cs := (eChan (⟨f, tt, x⟩ : Chan))) t118 (fun w h => hcj ▸ h.1.2.2.1.2.cells j hjc') rfl rfl rfl ?_
            refine Wl.alloc t118 rfl rfl (fun b17 => ?_)
            refine Wl.heap (fun w hw => hw.perm (perm_last _ _ _)) ?_
            refine Wl.storew 2 t118 rfl rfl rfl rfl rfl rfl rfl ?_
            refine Wl.nil ?_
            refine Wx.then_n ?_
            refine Wc.seq ?_
            refine Wc.region ?_
            refine Wl.fld ⟨_, 0, none⟩ fl42_0 rfl rfl rfl ?_
            refine Wl.loadb 1 0 t39 rfl rfl rfl rfl ?_
            refine Wl.fld ⟨_, 1, none⟩ fl118_1 rfl rfl rfl ?_
            refine Wl.loadb 2 1 t3 rfl rfl rfl rfl ?_
            refine Wl.idx (j := tt) Tryz.underlying39 t115 rfl rfl rfl htl ?_
            refine Wl.loadrw (cs := (eTask (⟨tn, tp⟩ : Task))) t115 (fun w h => htt ▸ h.1.2.2.1.1.cells tt htl) rfl rfl rfl ?_
            refine Wl.alloc t115 rfl rfl (fun b18 => ?_)
            refine Wl.front [.box b3 [.slice (some jd) ns.length jc] 34, .box b10 [.slice (some tad) (tasksOf ns).length tc, .slice (some cad) (chansOf ns).length cc] 42, .box b17 (eChan (⟨f, tt, x⟩ : Chan)) 118] (innB gs MJ) _ rfl ?_
            refine Wl.storew 3 t115 rfl rfl rfl rfl rfl rfl rfl ?_
            refine Wl.nil ?_
            refine Wx.then_n ?_
            refine Wc.seq ?_
            refine Wc.region ?_
            refine Wl.fld ⟨_, 0, none⟩ fl115_0 rfl rfl rfl ?_
            refine Wl.loadb 3 0 t3 rfl rfl rfl rfl ?_
            refine Wl.move rfl rfl ?_
            refine Wl.eql rfl rfl rfl ?_
            refine Wl.nil ?_
            refine Wx.then_n ?_
            refine Wc.condp rfl (fun h126 => ?_) (fun h126 => ?_)
            ·
              have hqn : tn = q := by have h := h126; dsimp only at h; omega
              subst hqn
              refine Wc.seq ?_
              refine Wc.region ?_
              refine Wl.fld ⟨_, 0, none⟩ fl42_0 rfl rfl rfl ?_
              refine Wl.loadb 1 0 t39 rfl rfl rfl rfl ?_
              refine Wl.fld ⟨_, 0, none⟩ fl118_0 rfl rfl rfl ?_
              refine Wl.loadb 2 0 t3 rfl rfl rfl rfl ?_
              refine Wl.idx (j := f) Tryz.underlying39 t115 rfl rfl rfl hfl ?_
              refine Wl.loadrw (cs := (eTask (⟨fn, fp⟩ : Task))) t115 (fun w h => hff ▸ h.1.2.2.1.1.cells f hfl) rfl rfl rfl ?_
              refine Wl.alloc t115 rfl rfl (fun b19 => ?_)
              refine Wl.front [.box b3 [.slice (some jd) ns.length jc] 34, .box b10 [.slice (some tad) (tasksOf ns).length tc, .slice (some cad) (chansOf ns).length cc] 42, .box b17 (eChan (⟨f, tt, x⟩ : Chan)) 118, .box b18 (eTask (⟨tn, tp⟩ : Task)) 115] (innB gs MJ) _ rfl ?_
              refine Wl.storew 4 t115 rfl rfl rfl rfl rfl rfl rfl ?_
              refine Wl.nil ?_
              refine Wx.then_n ?_
              have htp2 : tp < ns[tn].par.toNat := by omega
              have hfp2 : fp < ns[fn].par.toNat := by omega
              refine Wc.drawt 25 mixed (by kernel_rfl) (fun w hw => hw.drew) ?_
              refine Wl.move rfl rfl ?_
              refine Wl.move rfl rfl ?_
              refine Wl.idx (j := tn) Tryz.underlying85 t52 rfl rfl rfl (by omega) ?_
              refine Wl.loadr (j := 0) (cs := (eSl (some ⟨g, 0, none⟩, ns[tn].par.toNat, cp))) t52 (fun w h => hpq ▸ (show kSl.Row w (some ⟨go, 0, none⟩) (slOf gs ns) from row_holds h.1.2.1).cells tn (by rw [slOf_len gs ns hgk]; omega)) rfl rfl (Addr.add_zero' _).symm rfl ?_
              refine Wl.fld ⟨_, 1, none⟩ fl115_1 rfl rfl rfl ?_
              refine Wl.loadb 3 1 t3 rfl rfl rfl rfl ?_
              refine Wl.move rfl rfl ?_
              refine Wl.move rfl rfl ?_
              refine Wl.idx (j := tn) Tryz.underlying85 t52 rfl rfl rfl (by omega) ?_
              refine Wl.loadr (j := 0) (cs := (eSl (some ⟨g, 0, none⟩, ns[tn].par.toNat, cp))) t52 (fun w h => hpq ▸ (show kSl.Row w (some ⟨go, 0, none⟩) (slOf gs ns) from row_holds h.1.2.1).cells tn (by rw [slOf_len gs ns hgk]; omega)) rfl rfl (Addr.add_zero' _).symm rfl ?_
              refine Wl.fld ⟨_, 1, none⟩ fl115_1 rfl rfl rfl ?_
              refine Wl.loadb 3 1 t3 rfl rfl rfl rfl ?_
              refine Wl.idx (j := tp) Tryz.underlying52 t2 rfl rfl rfl htp2 ?_
              refine Wl.loadh (j := 0) (cs := (eInt (getM MJ tn tp))) t2 (fun w hw => inn_cells (A := [.box b3 [.slice (some jd) ns.length jc] 34, .box b10 [.slice (some tad) (tasksOf ns).length tc, .slice (some cad) (chansOf ns).length cc] 42, .box b17 (eChan (⟨f, tt, x⟩ : Chan)) 118, .box b18 (eTask (⟨tn, tp⟩ : Task)) 115, .box b19 (eTask (⟨fn, fp⟩ : Task)) 115]) hw hgq hqJ (by rw [hrq]; exact htp2)) rfl rfl (Addr.add_zero' _).symm rfl ?_
              refine Wl.move rfl rfl ?_
              refine Wl.fld ⟨_, 0, none⟩ fl115_0 rfl rfl rfl ?_
              refine Wl.loadb 4 0 t3 rfl rfl rfl rfl ?_
              refine Wl.idx (j := fn) Tryz.underlying85 t52 rfl rfl rfl (by omega) ?_
              refine Wl.loadr (j := 0) (cs := (eSl (some ⟨g2, 0, none⟩, ns[fn].par.toNat, cp2))) t52 (fun w h => hpf ▸ (show kSl.Row w (some ⟨go, 0, none⟩) (slOf gs ns) from row_holds h.1.2.1).cells fn (by rw [slOf_len gs ns hgk]; omega)) rfl rfl (Addr.add_zero' _).symm rfl ?_
              refine Wl.fld ⟨_, 1, none⟩ fl115_1 rfl rfl rfl ?_
              refine Wl.loadb 4 1 t3 rfl rfl rfl rfl ?_
              refine Wl.idx (j := fp) Tryz.underlying52 t2 rfl rfl rfl hfp2 ?_
              refine Wl.loadh (j := 0) (cs := (eInt (getM MJ fn fp))) t2 (fun w hw => inn_cells (A := [.box b3 [.slice (some jd) ns.length jc] 34, .box b10 [.slice (some tad) (tasksOf ns).length tc, .slice (some cad) (chansOf ns).length cc] 42, .box b17 (eChan (⟨f, tt, x⟩ : Chan)) 118, .box b18 (eTask (⟨tn, tp⟩ : Task)) 115, .box b19 (eTask (⟨fn, fp⟩ : Task)) 115]) hw hgf hfJ (by rw [hrf]; exact hfp2)) rfl rfl (Addr.add_zero' _).symm rfl ?_
              refine Wl.mini rfl rfl rfl ?_
              refine Wl.idx (j := tp) Tryz.underlying52 t2 rfl rfl rfl htp2 ?_
              refine Wl.nilt ?_
              refine Wl.storeI (q := tn) (p := tp) (gs := gs) (M := MJ) (A := [.box b3 [.slice (some jd) ns.length jc] 34, .box b10 [.slice (some tad) (tasksOf ns).length tc, .slice (some cad) (chansOf ns).length cc] 42, .box b17 (eChan (⟨f, tt, x⟩ : Chan)) 118, .box b18 (eTask (⟨tn, tp⟩ : Task)) 115, .box b19 (eTask (⟨fn, fp⟩ : Task)) 115]) (v := _) (g := (g, cp)) t2 rfl rfl hgq hqJ (by rw [hrq]; exact htp2) ?_
              refine Wl.nil ?_
              refine Wx.block_n ?_
              refine Wx.then_n ?_
              refine Wc.region ?_
              refine Wl.add rfl rfl rfl (by omega) ?_
              refine Wl.move rfl rfl ?_
              refine Wl.nil ?_
              rw [if_pos rfl] at hfj
              exact Wx.againS (j + 1) (by omega) ⟨rfl, rfl, rfl, rfl, rfl, rfl, rfl, rfl, rfl, rfl, rfl, rfl, trivial⟩ hjc' (fun w hw => by (try dsimp only); rw [hfj]; exact ((hw.drop 4).drop 3).drop 2)
            ·
              refine Wc.skip ?_
              refine Wx.block_n ?_
              refine Wx.then_n ?_
              refine Wc.region ?_
              refine Wl.add rfl rfl rfl (by omega) ?_
              refine Wl.move rfl rfl ?_
              refine Wl.nil ?_
              rw [if_neg (fun h => h126 (by dsimp only; exact h))] at hfj
              exact Wx.againS (j + 1) (by omega) ⟨rfl, rfl, rfl, rfl, rfl, rfl, rfl, rfl, rfl, rfl, rfl, rfl, trivial⟩ hjc' (fun w hw => by (try dsimp only); rw [hfj]; exact (hw.drop 3).drop 2)
          ·
            refine Wc.exit ?_
            refine Wx.then_e ?_
            refine Wx.then_e ?_
            refine Wx.block_e ?_
            refine Wx.block_n ?_
            refine Wx.then_n ?_
            refine Wc.region ?_
            refine Wl.add rfl rfl rfl (by omega) ?_
            refine Wl.move rfl rfl ?_
            refine Wl.nil ?_
            obtain rfl : j = (chansOf ns).length := by omega
            rw [List.take_length]
            exact Wx.againS ⟨(chansOf ns).foldl (chStep (tasksOf ns) q) (nodeBase ns l offs M q ns[q].par.toNat), k + 1⟩ (by (try dsimp only); omega) ⟨rfl, rfl, rfl, rfl, rfl, rfl, rfl, rfl, trivial⟩ ⟨hk, (hsh.base l offs q _).fold (tasksOf ns) q (chansOf ns), hma⟩ (fun w hw => hw.imp fun w h => h.1)
      ·
        obtain rfl : k = (order ns).length := by omega
        rw [List.drop_length] at hma
        obtain rfl : M = marksAll ns l offs := hma.symm
        refine Wc.heap (fun w hw => St.freezeAll _ hw) ?_
        refine Wc.exit ?_
        refine Wx.then_e ?_
        refine Wx.then_e ?_
        refine Wx.block_e ?_
        refine Wx.then_n ?_
        refine Wc.seq ?_
        refine Wc.region ?_
        refine Wl.move rfl rfl ?_
        refine Wl.assign rfl rfl ?_
        refine Wl.nil ?_
        refine Wx.then_n ?_
        refine Wc.ret ?_
        exact Wx.retRR (some ⟨go, 0, none⟩) co rfl (congrArg (fun z => some (Value.slice _ z _)) hsh.len.symm) (by rw [hsh.len]; exact hco) (fun w h => (inner_all hsh hgk h.2).row h.1.2.1)

end Go.Proofs.YtkffjbijamfnoaaGreat
