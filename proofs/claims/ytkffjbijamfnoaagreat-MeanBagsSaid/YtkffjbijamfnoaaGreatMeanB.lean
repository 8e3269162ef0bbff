/-
  How much comes out of a job's nodes, and at what times. No program in this text.
-/
import Derived.Test.YtkffjbijamfnoaaGreatMeanS
set_option linter.unusedVariables false
set_option linter.unusedSimpArgs false
namespace Go.Proofs.YtkffjbijamfnoaaGreat
theorem goF_at {β : Type} (F : List β → Int → β) {ins : Int → List Int} {o : List Int} (ht : Topo ins o) (st : List β) (j : Nat) (hj : j < o.length) (k : Int) (hk : k ∈ ins o[j]) : (goF F (o.take j) st)[k.toNat]? = (goF F o st)[k.toNat]? := by
  have hke := ht.early j hj k hk
  have hk0 := ht.pos k (List.mem_of_mem_take hke)
  conv => rhs; rw [← List.take_append_drop j o, goF_append]
  rw [goF_other F _ _ _ (fun i hi => ht.pos i (List.mem_of_mem_drop hi)) (by
    rw [Int.toNat_of_nonneg hk0]
    intro h
    have hnd := ht.nodup
    rw [← List.take_append_drop j o] at hnd
    exact (List.nodup_append.1 hnd).2.2 k hke k h rfl)]
theorem Topo.induct {ins : Int → List Int} {o : List Int} (ht : Topo ins o) {P : Nat → Int → Prop} (h : ∀ (j : Nat) (hj : j < o.length), (∀ k ∈ ins o[j], ∃ i, i < j ∧ k ∈ o ∧ P i k) → P j o[j]) : ∀ (j : Nat) (hj : j < o.length), P j o[j] := by
  intro j
  induction j using Nat.strongRecOn with
  | _ j ih =>
    intro hj
    refine h j hj (fun k hk => ?_)
    obtain ⟨i, hi, e⟩ := List.getElem_of_mem (ht.early j hj k hk)
    rw [List.length_take] at hi
    rw [List.getElem_take] at e
    subst e
    exact ⟨i, by omega, List.getElem_mem _, ih i (by omega) (by omega)⟩
/-! ### what a right job is -/
theorem node_facts {ns : List Node} {x : Node} (h : nodeErr ns x = 0) : (1 ≤ x.kind ∧ x.kind ≤ 8) ∧ insOk ns x = true ∧ (1 ≤ x.par ∧ x.par ≤ 4) ∧ (worked x.kind = true → x.e.check = 0) ∧ (keyed x.kind = true → 1 ≤ x.agg ∧ x.agg ≤ 5) ∧ (x.kind = 7 → winOk x.win = true) ∧ (x.kind ≠ 7 → x.win = ⟨0, 0, 0⟩) := by
  have key : ∀ (i b3 b7 b9 b11 b13 : Bool), (if b3 then (81 : Int) else if !i then 82 else if b7 then 84 else if b9 then 85 else if b11 then 86 else if b13 then 87 else 0) = 0 → i = true ∧ b3 = false ∧ b7 = false ∧ b9 = false ∧ b11 = false ∧ b13 = false := by
    intro i b3 b7 b9 b11 b13
    cases i <;> cases b3 <;> cases b7 <;> cases b9 <;> cases b11 <;> cases b13 <;> simp
  rw [nodeErr_eq ns x _ _ _ _ _ rfl rfl rfl rfl rfl] at h
  obtain ⟨h1, h3, h7, h9, h11, h13⟩ := key _ _ _ _ _ _ h
  simp only [decide_eq_false_iff_not] at h3 h7
  refine ⟨by omega, h1, by omega, fun hk => ?_, fun hk => ?_, fun hk => ?_, fun hk => ?_⟩
  · rw [if_pos hk] at h9; simpa using h9
  · rw [if_pos hk] at h11; simp at h11; omega
  · rw [if_pos hk] at h13; simpa using h13
  · rw [if_neg hk] at h13; simpa using h13
theorem job_facts {ns : List Node} (h : jobErr ns = 0) : (1 ≤ ns.length ∧ ns.length ≤ 12) ∧ (∀ x ∈ ns, nodeErr ns x = 0) ∧ (order ns).length = ns.length ∧ ∀ x ∈ weights ns, x ≤ 64 := by
  obtain ⟨h1, h2, h3, h4⟩ := shape_ok (jobErr_shape h)
  refine ⟨⟨h1, h2⟩, h3, h4, fun x hx => ?_⟩
  unfold jobErr at h
  rw [if_neg (by have := jobErr_shape (ns := ns) (by unfold jobErr; exact h); omega)] at h
  split at h
  · cases h
  · rename_i hn
    simp only [Bool.not_eq_true, List.any_eq_false, decide_eq_true_eq] at hn
    have := hn x hx
    omega
theorem weights_goF (ns : List Node) : weights ns = goF (fun wl i => ((ns[i.toNat]?).map (wOf wl)).getD 0) (order ns) (List.replicate ns.length 0) := by
  unfold weights
  generalize List.replicate ns.length (0 : Int) = wl
  generalize order ns = o
  induction o generalizing wl with
  | nil => rfl
  | cons i o ih => rw [wgo, goF, ih]
theorem wOf_congr {wl wl' : List Int} {x : Node} (h : ∀ k ∈ x.ins, wl[k.toNat]? = wl'[k.toNat]?) : wOf wl x = wOf wl' x := by
  have : sumIns wl x.ins = sumIns wl' x.ins := by
    unfold sumIns
    rw [List.map_congr_left (g := wAt wl') (fun k hk => by unfold wAt; rw [List.getD_eq_getElem?_getD, List.getD_eq_getElem?_getD, h k hk])]
  unfold wOf
  rw [this]
theorem weights_at {ns : List Node} {i : Int} (hi : i ∈ order ns) (hn : i.toNat < ns.length) : wAt (weights ns) i = wOf (weights ns) ns[i.toNat] := by
  have h := goF_eq (fun wl i => ((ns[i.toNat]?).map (wOf wl)).getD 0) (ins := insOf ns) (fun st st' i h => by
    cases hx : ns[i.toNat]? with
    | none => rfl
    | some x => exact wOf_congr (fun k hk => h k (by unfold insOf; rw [hx]; exact hk))) (order_topo ns) (st := List.replicate ns.length 0) (fun k hk => by
    have := (order_mem ns).1 k hk
    rw [List.length_replicate]; omega) i hi
  rw [← weights_goF] at h
  unfold wAt
  rw [List.getD_eq_getElem?_getD, h, List.getElem?_eq_getElem hn]
  rfl
/-! ### what comes out -/
theorem run_at {ns : List Node} {l : Logs} {offs : List (List Int)} {mk : Int → Int} {i : Int} (hi : i ∈ order ns) : (runAll ns l offs mk)[i.toNat]? = some (nodeStep ns l offs mk (runAll ns l offs mk) i) := by
  refine goF_eq (nodeStep ns l offs mk) (ins := insOf ns) (fun st st' i h => ?_) (order_topo ns) (fun k hk => ?_) i hi
  · unfold nodeStep; rw [inOf_congr h]
  · have := (order_mem ns).1 k hk
    rw [List.length_replicate]; omega
theorem outAt_run {ns : List Node} {l : Logs} {offs : List (List Int)} {mk : Int → Int} {i : Int} (hi : i ∈ order ns) (hn : i.toNat < ns.length) : outAt (runAll ns l offs mk) i = sortR (workOf ns[i.toNat] (inOf ns l offs (runAll ns l offs mk) i) (mk i)).1 := by
  unfold outAt
  rw [run_at hi]
  unfold nodeStep
  rw [List.getElem?_eq_getElem hn]
  rfl
/-- What a node is given as it is its turn. -/
theorem inOf_turn {ns : List Node} {l : Logs} {offs : List (List Int)} {mk : Int → Int} (j : Nat) (hj : j < (order ns).length) :
    inOf ns l offs (goF (nodeStep ns l offs mk) ((order ns).take j) (List.replicate ns.length ([], []))) (order ns)[j] = inOf ns l offs (runAll ns l offs mk) (order ns)[j] :=
  inOf_congr (fun k hk => goF_at _ (order_topo ns) _ j hj k hk)
def TimeIn (B : Int) (l : List Rec) : Prop := ∀ r ∈ l, -B ≤ r.time ∧ r.time ≤ B
theorem gather_all {ses : Bool} {agg : Int} {P : Pane → Prop} (hj : ∀ x y, P x → P y → P (joinP agg x y)) : ∀ (E L : List Pane), (∀ p ∈ L, P p) → (∀ p ∈ E, P p) → ∀ p ∈ gather ses agg L E, P p
  | [], L, hL, _ => hL
  | e :: E, L, hL, hE => gather_all hj E (absorb ses agg L e) (fun x hx => by
      have hja : ∀ (l : List Pane) (p : Pane), P p → (∀ y ∈ l, P y) → P (joinAll agg p l) := by
        intro l
        induction l with
        | nil => exact fun p hp _ => hp
        | cons y l ih => exact fun p hp hl => ih (joinP agg p y) (hj p y hp (hl y (List.mem_cons_self ..))) (fun z hz => hl z (List.mem_cons_of_mem _ hz))
      unfold absorb at hx
      rcases List.mem_append.1 hx with hx | hx
      · exact hL x (List.mem_filter.1 hx).1
      · rw [List.mem_singleton.1 hx]
        exact hja _ _ (hE e (List.mem_cons_self ..)) (fun y hy => hL y (List.mem_filter.1 hy).1)) (fun p hp => hE p (List.mem_cons_of_mem _ hp))
theorem panesOf_all {ses : Bool} {agg : Int} {P : Pane → Prop} (hj : ∀ x y, P x → P y → P (joinP agg x y)) {E : List Pane} (hE : ∀ p ∈ E, P p) : ∀ p ∈ panesOf ses agg E, P p := fun p hp =>
  gather_all hj E [] (by simp) hE p ((isort_perm _).mem_iff.1 hp)
theorem absorb_len {ses : Bool} {agg : Int} (L : List Pane) (p : Pane) : (absorb ses agg L p).length ≤ L.length + 1 := by
  unfold absorb
  rw [List.length_append, List.length_singleton]
  have := List.length_filter_le (fun x => !meets ses p x) L
  omega
theorem gather_len {ses : Bool} {agg : Int} : ∀ (E L : List Pane), (gather ses agg L E).length ≤ L.length + E.length
  | [], L => by simp [gather]
  | e :: E, L => by
    have h1 := gather_len (ses := ses) (agg := agg) E (absorb ses agg L e)
    have h2 := absorb_len (ses := ses) (agg := agg) L e
    show (gather ses agg (absorb ses agg L e) E).length ≤ _
    rw [List.length_cons]; omega
theorem panesOf_len {ses : Bool} {agg : Int} (E : List Pane) : (panesOf ses agg E).length ≤ E.length := by
  unfold panesOf
  rw [isort_length]
  simpa using gather_len E []
theorem flatMap_len {α β : Type} {f : α → List β} {k : Nat} : ∀ (l : List α), (∀ x ∈ l, (f x).length ≤ k) → (l.flatMap f).length ≤ k * l.length
  | [], _ => by simp
  | x :: l, h => by
    have h1 := flatMap_len l (fun y hy => h y (List.mem_cons_of_mem _ hy))
    have h2 := h x (List.mem_cons_self ..)
    rw [List.flatMap_cons, List.length_append, List.length_cons, Nat.mul_add]; omega
theorem entriesOf_len {n : Node} (hw : n.kind = 7 → winOk n.win = true) (l : List Rec) : (entriesOf n l).length ≤ fanOf n * l.length :=
  flatMap_len l (fun r _ => by rw [List.length_map]; exact nodeSpans_len hw r.time)
theorem nodePanes_len {n : Node} (hw : n.kind = 7 → winOk n.win = true) (l : List Rec) : (nodePanes n l).length ≤ fanOf n * l.length := Nat.le_trans (panesOf_len _) (entriesOf_len hw l)
theorem fanOf_pos {n : Node} (hw : n.kind = 7 → winOk n.win = true) : 1 ≤ fanOf n := by
  unfold fanOf
  split
  · rename_i h
    obtain ⟨h1, h2, h3, h4⟩ := winOk_size (hw h.1)
    have : 0 ≤ (n.win.size - 1) / n.win.slide := Int.ediv_nonneg (by omega) (by have := h4 h.2; omega)
    unfold times
    omega
  · omega
theorem workOf_len {n : Node} (hw : n.kind = 7 → winOk n.win = true) (l : List Rec) (mk : Int) : (workOf n l mk).1.length ≤ fanOf n * l.length := by
  have h1 := fanOf_pos hw
  have h2 := nodePanes_len hw l
  have h3 : l.length ≤ fanOf n * l.length := Nat.le_mul_of_pos_left _ (by omega)
  have h4 : (fireRecs mk (nodePanes n l)).length ≤ (nodePanes n l).length := by unfold fireRecs; rw [List.length_map]; exact List.length_filter_le _ _
  unfold workOf
  repeat' split
  all_goals first
    | (simp only [List.length_map]; omega)
    | (have := List.length_filter_le (fun r : Rec => decide (n.e.value r ≠ 0)) l; simp only; omega)
    | (simp; done)
    | (simp only; omega)
def PaneIn (B : Int) (p : Pane) : Prop := p.span.frm < p.span.to ∧ -B < p.span.to ∧ p.span.to ≤ B + 1
theorem nodeSpans_in {n : Node} (hw : n.kind = 7 → winOk n.win = true) {B t : Int} (hB : 2199023255552 ≤ B) (ht : -B ≤ t ∧ t ≤ B) : ∀ s ∈ nodeSpans n t, s.frm < s.to ∧ -B < s.to ∧ s.to ≤ B + 68719476736 + 1 := by
  intro s hs
  unfold nodeSpans at hs
  split at hs
  · rename_i h
    have h1 := spansOf_in (hw h) t s hs
    have h2 := winOk_size (hw h)
    unfold SpanIn at h1
    omega
  · rw [List.mem_singleton.1 hs]; unfold whole; dsimp only; omega
theorem entriesOf_in {n : Node} (hw : n.kind = 7 → winOk n.win = true) {B : Int} {l : List Rec} (hB : 2199023255552 ≤ B) (ht : TimeIn B l) : ∀ p ∈ entriesOf n l, PaneIn (B + 68719476736) p := by
  intro p hp
  unfold entriesOf at hp
  obtain ⟨r, hr, hp⟩ := List.mem_flatMap.1 hp
  obtain ⟨s, hs, rfl⟩ := List.mem_map.1 hp
  have := nodeSpans_in hw hB (ht r hr) s hs
  unfold PaneIn entry
  dsimp only
  omega
theorem nodePanes_in {n : Node} (hw : n.kind = 7 → winOk n.win = true) {B : Int} {l : List Rec} (hB : 2199023255552 ≤ B) (ht : TimeIn B l) : ∀ p ∈ nodePanes n l, PaneIn (B + 68719476736) p :=
  panesOf_all (fun x y hx hy => by unfold PaneIn joinP at *; dsimp only; omega) (entriesOf_in hw hB ht)
theorem workOf_time {n : Node} (hw : n.kind = 7 → winOk n.win = true) {B : Int} {l : List Rec} (hB : 2199023255552 ≤ B) (ht : TimeIn B l) (mk : Int) : TimeIn (B + 68719476736) (workOf n l mk).1 := by
  have hp : TimeIn (B + 68719476736) (fireRecs mk (nodePanes n l)) := by
    intro r hr
    unfold fireRecs at hr
    obtain ⟨p, hp, rfl⟩ := List.mem_map.1 hr
    have := nodePanes_in hw hB ht p (List.mem_filter.1 hp).1
    unfold PaneIn at this
    dsimp only
    omega
  have hl : TimeIn (B + 68719476736) l := fun r hr => by have := ht r hr; omega
  unfold workOf
  repeat' split
  all_goals first
    | exact hp
    | exact hl
    | (intro r hr; obtain ⟨q, hq, rfl⟩ := List.mem_map.1 hr; exact hl q hq)
    | (intro r hr; exact hl r (List.mem_filter.1 hr).1)
    | (intro r hr; simp at hr; done)
/-! ### sources -/
theorem lateGo_mem : ∀ (l : List Item) (m : Int) (x : Item), x ∈ lateGo m l → x ∈ l
  | [], _, _, h => by simp [lateGo] at h
  | y :: l, m, x, h => by
    unfold lateGo at h
    split at h
    · rcases List.mem_cons.1 h with rfl | h
      · exact List.mem_cons_self ..
      · exact List.mem_cons_of_mem _ (lateGo_mem l _ x h)
    · split at h
      · exact List.mem_cons_of_mem _ (lateGo_mem l _ x h)
      · rcases List.mem_cons.1 h with rfl | h
        · exact List.mem_cons_self ..
        · exact List.mem_cons_of_mem _ (lateGo_mem l _ x h)
theorem lateGo_len : ∀ (l : List Item) (m : Int), (lateGo m l).length ≤ l.length
  | [], _ => by simp [lateGo]
  | y :: l, m => by
    unfold lateGo
    repeat' split
    all_goals have := lateGo_len l; simp only [List.length_cons]
    all_goals first | (have := this (max m y.mark); omega) | (have := this m; omega)
theorem partRecs_mem {items : List Item} {r : Rec} (h : r ∈ partRecs items) : ∃ x ∈ items, x.kind = 1 ∧ x.rcd = r := by
  unfold partRecs at h
  obtain ⟨x, hx, e⟩ := List.mem_map.1 h
  obtain ⟨h1, h2⟩ := List.mem_filter.1 hx
  exact ⟨x, lateGo_mem _ _ _ h1, by simpa using h2, e⟩
theorem partRecs_len (items : List Item) : (partRecs items).length ≤ items.length := by
  unfold partRecs
  rw [List.length_map]
  exact Nat.le_trans (List.length_filter_le _ _) (lateGo_len _ _)
theorem readPart_len (offs : List (List Int)) (i p : Nat) (items : List Item) : (readPart offs i p items).length ≤ items.length := by unfold readPart; exact List.length_take_le' ..
theorem mapIdx_sum_le {f : Nat → List Item → List Item} (hf : ∀ p x, (f p x).length ≤ x.length) : ∀ (ps : List (List Item)), partItems (ps.mapIdx f) ≤ partItems ps := by
  intro ps
  induction ps generalizing f with
  | nil => simp [partItems]
  | cons x ps ih =>
    have h1 := ih (f := fun i => f (i + 1)) (fun p x => hf (p + 1) x)
    have h2 := hf 0 x
    rw [List.mapIdx_cons]
    unfold partItems at *
    simp only [List.map_cons, List.sum_cons]
    omega
theorem recsOf_len : ∀ (ps : List (List Item)), (recsOf ps).length ≤ partItems ps
  | [] => by simp [recsOf]
  | p :: ps => by
    have h1 := recsOf_len ps
    have h2 := partRecs_len p
    unfold recsOf partItems at *
    simp only [List.flatMap_cons, List.length_append, List.map_cons, List.sum_cons]
    omega
theorem readOf_len (offs : List (List Int)) (i : Nat) (ps : List (List Item)) : (recsOf (readOf offs i ps)).length ≤ partItems ps :=
  Nat.le_trans (recsOf_len _) (mapIdx_sum_le (fun p x => readPart_len offs i p x) ps)
theorem readOf_mem {offs : List (List Int)} {i : Nat} {ps : List (List Item)} {r : Rec} (h : r ∈ recsOf (readOf offs i ps)) : ∃ p ∈ ps, ∃ x ∈ p, x.kind = 1 ∧ x.rcd = r := by
  unfold recsOf readOf at h
  obtain ⟨q, hq, hr⟩ := List.mem_flatMap.1 h
  obtain ⟨j, hj, rfl⟩ := List.mem_mapIdx.1 hq
  obtain ⟨x, hx, h1⟩ := partRecs_mem hr
  exact ⟨ps[j], List.getElem_mem hj, x, List.mem_of_mem_take hx, h1⟩
theorem items_at : ∀ (l : Logs) (i : Nat), partItems ((l[i]?).getD []) ≤ items l
  | [], _ => by simp [partItems]
  | p :: l, 0 => by simp [items]
  | p :: l, i + 1 => by
    have := items_at l i
    simp only [items, List.getElem?_cons_succ, List.map_cons, List.sum_cons] at *
    omega
/-- Logs of a job: what a node's partitions are. -/
theorem logs_facts {ns : List Node} {l : Logs} (h : logsErr ns l = 0) : l.length = ns.length ∧ ∀ (i : Nat) (hi : i < ns.length) (hi2 : i < l.length), (l[i].length : Int) = wantParts ns[i] ∧ ∀ p ∈ l[i], p.length ≤ 4096 ∧ ∀ x ∈ p, itemOk x = true := by
  unfold logsErr at h
  split at h
  · omega
  rename_i hl
  split at h
  · rename_i ha
    refine ⟨by omega, fun i hi hi2 => ?_⟩
    have hz : i < (ns.zip l).length := by rw [List.length_zip]; omega
    have := List.all_eq_true.1 ha (ns.zip l)[i] (List.getElem_mem hz)
    rw [List.getElem_zip] at this
    unfold partsOk at this
    simp only [Bool.and_eq_true, decide_eq_true_eq, List.all_eq_true] at this
    refine ⟨this.1, fun p hp => ?_⟩
    have h2 := this.2 p hp
    unfold partOk at h2
    simp only [Bool.and_eq_true, decide_eq_true_eq, List.all_eq_true] at h2
    exact h2
  · omega
theorem itemOk_time {x : Item} (h : itemOk x = true) (hk : x.kind = 1) : -1099511627776 ≤ x.rcd.time ∧ x.rcd.time ≤ 1099511627776 := by
  unfold itemOk at h
  rw [if_pos hk] at h
  simp only [Bool.and_eq_true, decide_eq_true_eq] at h
  omega
theorem recs_none {ns : List Node} {l : Logs} (h : logsErr ns l = 0) (offs : List (List Int)) (i : Nat) (hi : i < ns.length) (hk : ns[i].kind ≠ 1) : recsOf (readOf offs i ((l[i]?).getD [])) = [] := by
  obtain ⟨h1, h2⟩ := logs_facts h
  have := (h2 i hi (by omega)).1
  unfold wantParts at this
  rw [if_neg hk] at this
  rw [List.getElem?_eq_getElem (show i < l.length by omega), Option.getD_some, show l[i]'(by omega) = [] from List.eq_nil_of_length_eq_zero (by omega)]
  rfl
/-! ### all nodes -/
theorem ins_facts {ns : List Node} {x : Node} (h : insOk ns x = true) : (∀ k ∈ x.ins, 0 ≤ k ∧ k < ns.length) ∧ (x.kind = 1 → x.ins = []) ∧ (x.kind ≠ 1 → 1 ≤ x.ins.length) := by
  refine ⟨(ins_ok h).2, fun hk => ?_, fun hk => ?_⟩
  · unfold insOk mostIn at h
    rw [if_pos hk] at h
    simp only [Bool.and_eq_true, decide_eq_true_eq] at h
    exact List.eq_nil_of_length_eq_zero (by omega)
  · unfold insOk leastIn at h
    rw [if_neg hk] at h
    simp only [Bool.and_eq_true, decide_eq_true_eq] at h
    exact h.1.1
theorem insOf_get {ns : List Node} {i : Int} (hi : i.toNat < ns.length) : insOf ns i = ns[i.toNat].ins := by unfold insOf; rw [List.getElem?_eq_getElem hi]; rfl
theorem sum_ge : ∀ (l : List Int), (∀ x ∈ l, 1 ≤ x) → (l.length : Int) ≤ l.sum
  | [], _ => by simp
  | x :: l, h => by
    have h1 := sum_ge l (fun y hy => h y (List.mem_cons_of_mem _ hy))
    have h2 := h x (List.mem_cons_self ..)
    simp only [List.length_cons, List.sum_cons]; omega
theorem mul_small {a b : Int} (ha : 1 ≤ a) (hb : 1 ≤ b) (h : min 65 (min 65 a * min 65 b) ≤ 64) : a ≤ 64 ∧ b ≤ 64 ∧ min 65 (min 65 a * min 65 b) = a * b := by
  have h1 : min 65 a ≤ min 65 a * min 65 b := by
    have := Int.mul_le_mul_of_nonneg_left (show 1 ≤ min 65 b by omega) (show 0 ≤ min 65 a by omega)
    omega
  have h2 : min 65 b ≤ min 65 a * min 65 b := by
    have := Int.mul_le_mul_of_nonneg_right (show 1 ≤ min 65 a by omega) (show 0 ≤ min 65 b by omega)
    omega
  have h3 : a ≤ 64 := by omega
  have h4 : b ≤ 64 := by omega
  rw [show min 65 a = a by omega, show min 65 b = b by omega] at h ⊢
  omega
theorem times_pos' {x : Node} (h : winOk x.win = true) (h2 : x.win.kind = 2) : 1 ≤ times x := by
  obtain ⟨h1, _, _, h4⟩ := winOk_size h
  have : 0 ≤ (x.win.size - 1) / x.win.slide := Int.ediv_nonneg (by omega) (by have := h4 h2; omega)
  unfold times; omega
/-- A right node's weight. -/
theorem weight_facts {ns : List Node} (h : jobErr ns = 0) (j : Nat) (hj : j < (order ns).length) : ∃ hn : (order ns)[j].toNat < ns.length, 1 ≤ wAt (weights ns) (order ns)[j] ∧ (ns[(order ns)[j].toNat].kind ≠ 1 → wAt (weights ns) (order ns)[j] = fanOf ns[(order ns)[j].toNat] * sumIns (weights ns) ns[(order ns)[j].toNat].ins ∧ sumIns (weights ns) ns[(order ns)[j].toNat].ins ≤ 64 ∧ 1 ≤ sumIns (weights ns) ns[(order ns)[j].toNat].ins) ∧ fanOf ns[(order ns)[j].toNat] ≤ 64 := by
  obtain ⟨_, hz, _, hw⟩ := job_facts h
  revert j
  refine (order_topo ns).induct (P := fun j i => ∃ hn : i.toNat < ns.length, 1 ≤ wAt (weights ns) i ∧ (ns[i.toNat].kind ≠ 1 → wAt (weights ns) i = fanOf ns[i.toNat] * sumIns (weights ns) ns[i.toNat].ins ∧ sumIns (weights ns) ns[i.toNat].ins ≤ 64 ∧ 1 ≤ sumIns (weights ns) ns[i.toNat].ins) ∧ fanOf ns[i.toNat] ≤ 64) ?_
  intro j hj ih
  have hm := (order_mem ns).1 _ (List.getElem_mem hj)
  have hn : (order ns)[j].toNat < ns.length := by omega
  have hwa := weights_at (List.getElem_mem hj) hn
  have hle : wAt (weights ns) (order ns)[j] ≤ 64 := by
    unfold wAt
    rw [List.getD_eq_getElem?_getD, List.getElem?_eq_getElem (by rw [weights_len]; exact hn)]
    exact hw _ (List.getElem_mem _)
  obtain ⟨f1, f2, f3, f4, f5, f6, f7⟩ := node_facts (hz _ (List.getElem_mem hn))
  obtain ⟨g1, g2, g3⟩ := ins_facts f2
  rw [insOf_get hn] at ih
  refine ⟨hn, ?_⟩
  generalize ns[(order ns)[j].toNat] = x at *
  by_cases hk : x.kind = 1
  · rw [hwa]
    unfold wOf fanOf
    rw [if_pos hk, if_neg (by omega)]
    exact ⟨by omega, fun h => absurd hk h, by omega⟩
  · have hs : 1 ≤ sumIns (weights ns) x.ins := by
      unfold sumIns
      have := sum_ge (x.ins.map (wAt (weights ns))) (fun y hy => by
        obtain ⟨k, hk, rfl⟩ := List.mem_map.1 hy
        obtain ⟨i, _, _, hn', hh, _⟩ := ih k hk
        exact hh)
      rw [List.length_map] at this
      have := g3 hk
      omega
    rw [hwa] at hle ⊢
    unfold wOf at hle ⊢
    rw [if_neg hk] at hle ⊢
    unfold fanOf
    by_cases h2 : x.win.kind = 2
    · have h7 : x.kind = 7 := Decidable.byContradiction fun h => by rw [f7 h] at h2; cases h2
      have ht := times_pos' (f6 h7) h2
      rw [if_pos h2] at hle ⊢
      rw [if_pos ⟨h7, h2⟩]
      obtain ⟨m1, m2, m3⟩ := mul_small ht hs hle
      rw [m3, Int.toNat_of_nonneg (by omega)]
      exact ⟨by have := Int.mul_le_mul_of_nonneg_left hs (show 0 ≤ times x by omega); omega, fun _ => ⟨rfl, m2, hs⟩, by omega⟩
    · rw [if_neg h2] at hle ⊢
      rw [if_neg (fun h => h2 h.2)]
      exact ⟨by omega, fun _ => ⟨by omega, by omega, hs⟩, by omega⟩
theorem flatMap_out_len {ns : List Node} {st : List (List Rec × List Pane)} {I : Nat} : ∀ (l : List Int), (∀ k ∈ l, ((outAt st k).length : Int) ≤ wAt (weights ns) k * I) → ((l.flatMap (outAt st)).length : Int) ≤ sumIns (weights ns) l * I
  | [], _ => by simp [sumIns]
  | k :: l, h => by
    have h1 := flatMap_out_len l (fun y hy => h y (List.mem_cons_of_mem _ hy))
    have h2 := h k (List.mem_cons_self ..)
    unfold sumIns at *
    rw [List.flatMap_cons, List.length_append, List.map_cons, List.sum_cons, Int.add_mul]
    omega
section
variable {ns : List Node} {l : Logs} {offs : List (List Int)} {mk : Int → Int} (h : jobErr ns = 0) (hl : logsErr ns l = 0)
include h hl
theorem run_len (j : Nat) (hj : j < (order ns).length) : ((outAt (runAll ns l offs mk) (order ns)[j]).length : Int) ≤ wAt (weights ns) (order ns)[j] * items l ∧ ((inOf ns l offs (runAll ns l offs mk) (order ns)[j]).length : Int) ≤ 64 * items l := by
  obtain ⟨_, hz, _, hw⟩ := job_facts h
  revert j
  refine (order_topo ns).induct (P := fun j i => ((outAt (runAll ns l offs mk) i).length : Int) ≤ wAt (weights ns) i * items l ∧ ((inOf ns l offs (runAll ns l offs mk) i).length : Int) ≤ 64 * items l) ?_
  intro j hj ih
  obtain ⟨hn, w1, w2, w3⟩ := weight_facts h j hj
  rw [outAt_run (List.getElem_mem hj) hn, isort_length]
  obtain ⟨f1, f2, f3, f4, f5, f6, f7⟩ := node_facts (hz _ (List.getElem_mem hn))
  have hwk := workOf_len f6 (inOf ns l offs (runAll ns l offs mk) (order ns)[j]) (mk (order ns)[j])
  have hin : ((inOf ns l offs (runAll ns l offs mk) (order ns)[j]).length : Int) ≤ (if ns[(order ns)[j].toNat].kind = 1 then 1 else sumIns (weights ns) ns[(order ns)[j].toNat].ins) * items l := by
    unfold inOf
    rw [List.length_append]
    split
    · rename_i hk
      have e : insOf ns (order ns)[j] = [] := by rw [insOf_get hn]; exact (ins_facts f2).2.1 hk
      rw [e]
      have h1 := readOf_len offs (order ns)[j].toNat ((l[(order ns)[j].toNat]?).getD [])
      have h2 := items_at l (order ns)[j].toNat
      simp only [List.flatMap_nil, List.length_nil]
      omega
    · rename_i hk
      rw [recs_none hl offs _ hn hk, insOf_get hn]
      have := flatMap_out_len (ns := ns) (st := runAll ns l offs mk) (I := items l) ns[(order ns)[j].toNat].ins (fun k hk' => by
        obtain ⟨i, _, _, hh, _⟩ := ih k (by rw [insOf_get hn]; exact hk')
        exact hh)
      simp only [List.length_nil]
      omega
  generalize (inOf ns l offs (runAll ns l offs mk) (order ns)[j]) = L at *
  generalize wAt (weights ns) (order ns)[j] = W at *
  generalize (order ns)[j].toNat = i at *
  have hI : (0 : Int) ≤ items l := by omega
  by_cases hk : ns[i].kind = 1
  · rw [if_pos hk] at hin
    have e : fanOf ns[i] = 1 := by unfold fanOf; rw [if_neg (by omega)]
    rw [e] at hwk
    have := Int.mul_le_mul_of_nonneg_right w1 hI
    constructor
    · omega
    · have := Int.mul_le_mul_of_nonneg_right (show (1 : Int) ≤ 64 by omega) hI
      omega
  · rw [if_neg hk] at hin
    obtain ⟨e1, e2, e3⟩ := w2 hk
    constructor
    · rw [e1, Int.mul_assoc]
      have h1 : ((workOf ns[i] L (mk (order ns)[j])).1.length : Int) ≤ fanOf ns[i] * (L.length : Int) := by exact_mod_cast hwk
      exact Int.le_trans h1 (Int.mul_le_mul_of_nonneg_left hin (by omega))
    · exact Int.le_trans hin (Int.mul_le_mul_of_nonneg_right e2 hI)
theorem run_time (j : Nat) (hj : j < (order ns).length) : TimeIn (2199023255552 + (j + 1) * 68719476736) (outAt (runAll ns l offs mk) (order ns)[j]) ∧ TimeIn (2199023255552 + j * 68719476736) (inOf ns l offs (runAll ns l offs mk) (order ns)[j]) := by
  obtain ⟨_, hz, _, hw⟩ := job_facts h
  revert j
  refine (order_topo ns).induct (P := fun j i => TimeIn (2199023255552 + (j + 1) * 68719476736) (outAt (runAll ns l offs mk) i) ∧ TimeIn (2199023255552 + j * 68719476736) (inOf ns l offs (runAll ns l offs mk) i)) ?_
  intro j hj ih
  obtain ⟨hn, w1, w2, w3⟩ := weight_facts h j hj
  obtain ⟨f1, f2, f3, f4, f5, f6, f7⟩ := node_facts (hz _ (List.getElem_mem hn))
  have hin : TimeIn (2199023255552 + j * 68719476736) (inOf ns l offs (runAll ns l offs mk) (order ns)[j]) := by
    intro r hr
    unfold inOf at hr
    rcases List.mem_append.1 hr with hr | hr
    · obtain ⟨p, hp, x, hx, hk, rfl⟩ := readOf_mem hr
      obtain ⟨l1, l2⟩ := logs_facts hl
      rw [List.getElem?_eq_getElem (by omega), Option.getD_some] at hp
      have := itemOk_time (((l2 _ hn (by omega)).2 p hp).2 x hx) hk
      omega
    · obtain ⟨k, hk, hr⟩ := List.mem_flatMap.1 hr
      obtain ⟨i, hi, _, hh, _⟩ := ih k hk
      have := hh r hr
      omega
  refine ⟨?_, hin⟩
  rw [outAt_run (List.getElem_mem hj) hn]
  intro r hr
  have := workOf_time f6 (by omega) hin (mk (order ns)[j]) r ((isort_perm _).mem_iff.1 hr)
  omega
/-- What is asked of what a node is given. -/
def FineIn (L : List Rec) : Prop := L.length ≤ 33554432 ∧ TimeIn 4398046511104 L
end
theorem run_fine {ns : List Node} {l : Logs} {offs : List (List Int)} {mk : Int → Int} (h : jobErr ns = 0) (hl : logsErr ns l = 0) (j : Nat) (hj : j < (order ns).length) : FineIn (inOf ns l offs (runAll ns l offs mk) (order ns)[j]) := by
  have h1 := (run_len (offs := offs) (mk := mk) h hl j hj).2
  have h2 := (run_time (offs := offs) (mk := mk) h hl j hj).2
  have h3 := items_few h hl
  have h4 := (job_facts h).1
  have h5 := (order_mem ns).2
  exact ⟨by omega, fun r hr => by have := h2 r hr; omega⟩
end Go.Proofs.YtkffjbijamfnoaaGreat
