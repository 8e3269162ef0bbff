/-
  How the two texts bring panes together. No program in this text.
-/
import Derived.Test.YtkffjbijamfnoaaGreatPaneP
set_option linter.unusedVariables false
set_option linter.unusedSimpArgs false
namespace Go.Proofs.YtkffjbijamfnoaaGreat
/-! ### the reference's pass -/
def passGo (ses : Bool) (agg : Int) : List Pane → Pane → List Pane → Bool → Pane × List Pane × Bool
  | [], p, r, m => (p, r, m)
  | x :: l, p, r, m => if meets ses p x then passGo ses agg l (joinP agg p x) r true else passGo ses agg l p (r ++ [x]) m
theorem Good.tail {ses : Bool} {x : Pane} {l : List Pane} (h : Good ses (x :: l)) : Good ses l := ⟨(List.pairwise_cons.1 h.apart).2, fun y hy => h.pos y (List.mem_cons_of_mem _ hy)⟩
theorem pos_join {agg : Int} {p x : Pane} (hp : Pos p) : Pos (joinP agg p x) := by unfold Pos joinP at *; dsimp only; omega
theorem meets_rest {ses : Bool} {agg : Int} {p x : Pane} {l : List Pane} (h : Good ses (x :: l)) (hp : Pos p) (hm : meets ses p x = true) : ∀ y ∈ l, meets ses (joinP agg p x) y = meets ses p y := by
  intro y hy
  have h1 := meets_joinAll ses agg y (h.pos y (List.mem_cons_of_mem _ hy)) [x] p hp (fun a ha => by rw [List.mem_singleton.1 ha]; exact h.pos x (List.mem_cons_self ..)) (fun a ha => by rw [List.mem_singleton.1 ha]; exact hm)
  have h2 : meets ses y x = false := by rw [meets_comm]; exact (List.pairwise_cons.1 h.apart).1 y hy
  have h3 : joinAll agg p [x] = joinP agg p x := rfl
  rw [h3] at h1
  rw [meets_comm, meets_comm ses p y]
  refine Bool.eq_iff_iff.2 (h1.trans ⟨?_, fun h => .inl h⟩)
  rintro (h | ⟨a, ha, h⟩)
  · exact h
  · rw [List.mem_singleton.1 ha, h2] at h; cases h
theorem passGo_eq {ses : Bool} {agg : Int} : ∀ (l : List Pane) (p : Pane) (r : List Pane) (m : Bool), Good ses l → Pos p → passGo ses agg l p r m = (joinAll agg p (l.filter (meets ses p)), r ++ l.filter (fun x => !meets ses p x), m || l.any (meets ses p))
  | [], p, r, m, _, _ => by simp [passGo, joinAll]
  | x :: l, p, r, m, h, hp => by
    unfold passGo
    split
    · rename_i hm
      rw [passGo_eq l _ r true h.tail (pos_join hp)]
      have hr := meets_rest (agg := agg) h hp hm
      rw [List.filter_congr hr, List.filter_congr (fun y hy => by rw [hr y hy] : ∀ y ∈ l, (!meets ses (joinP agg p x) y) = !meets ses p y)]
      simp [hm, joinAll]
    · rename_i hm
      rw [passGo_eq l p _ m h.tail hp]
      simp [hm]
/-- Behind a pass that met none. -/
theorem absorb_none {ses : Bool} {agg : Int} {l : List Pane} {p : Pane} (h : l.any (meets ses p) = false) : absorb ses agg l p = l ++ [p] := by
  unfold absorb
  rw [List.any_eq_false] at h
  rw [List.filter_eq_self.2 (fun x hx => by simpa using h x hx), List.filter_eq_nil_iff.2 (fun x hx => h x hx)]
  rfl
theorem absorb_again {ses : Bool} {agg : Int} {l : List Pane} {p : Pane} (h : Good ses l) (hp : Pos p) : absorb ses agg (l.filter (fun x => !meets ses p x)) (joinAll agg p (l.filter (meets ses p))) = absorb ses agg l p := by
  rw [absorb_none]
  · rfl
  · rw [List.any_eq_false]
    intro x hx
    obtain ⟨h1, h2⟩ := List.mem_filter.1 hx
    have := meets_new (agg := agg) h.apart h.pos hp h1 (by simpa using h2)
    rw [meets_comm, this]; simp
/-! ### the program's sessions: sorted, the one behind the other -/
def joinStep (agg : Int) (out : List Pane) (p : Pane) : List Pane := match out.getLast? with
  | none => [p]
  | some x => if x.key = p.key ∧ p.span.frm < x.span.to then out.set (out.length - 1) ⟨x.key, ⟨x.span.frm, max x.span.to p.span.to⟩, aggMerge agg x.acc p.acc⟩ else out ++ [p]
def joinSes (agg : Int) (E : List Pane) : List Pane := (sortP E).foldl (joinStep agg) []
/-- Each one ends ahead of the next. -/
def Chain (out : List Pane) : Prop := out.Pairwise (fun x y => x.key < y.key ∨ (x.key = y.key ∧ x.span.to ≤ y.span.frm))
theorem chain_good {out : List Pane} (h : Chain out) (hp : ∀ x ∈ out, Pos x) : Good true out := ⟨h.imp (fun {x y} h => by
  rw [← Bool.not_eq_true, meets_true]; omega), hp⟩
theorem chain_last {out : List Pane} {x : Pane} (h : Chain out) (hl : out.getLast? = some x) : ∃ l, out = l ++ [x] ∧ ∀ y ∈ l, y.key < x.key ∨ (y.key = x.key ∧ y.span.to ≤ x.span.frm) := by
  obtain ⟨l, rfl⟩ := List.getLast?_eq_some_iff.1 hl
  exact ⟨l, rfl, fun y hy => (List.pairwise_append.1 h).2.2 y hy x (by simp)⟩
def leK (x p : Pane) : Prop := x.key < p.key ∨ (x.key = p.key ∧ x.span.frm ≤ p.span.frm)
theorem joinStep_eq {agg : Int} {out : List Pane} {p : Pane} (h : Chain out) (hpos : ∀ x ∈ out, Pos x) (hp : Pos p) (hle : ∀ x ∈ out, leK x p) : joinStep agg out p = absorb true agg out p ∧ Chain (joinStep agg out p) := by
  cases hl : out.getLast? with
  | none =>
    obtain rfl := List.getLast?_eq_none_iff.1 hl
    simp [joinStep, absorb, joinAll, Chain]
  | some x =>
    obtain ⟨l, rfl, hx⟩ := chain_last h hl
    have hlx := hle x (by simp)
    have hpx := hpos x (by simp)
    unfold Pos at hpx hp
    unfold leK at hlx
    have hno : ∀ y ∈ l, meets true p y = false := fun y hy => by
      rw [← Bool.not_eq_true, meets_true]
      have := hx y hy
      omega
    have hch := (List.pairwise_append.1 h).1
    simp only [joinStep, hl]
    split
    · rename_i hc
      have hm : meets true p x = true := meets_true.2 ⟨hc.1, by omega, hc.2⟩
      have e : (⟨x.key, ⟨x.span.frm, max x.span.to p.span.to⟩, aggMerge agg x.acc p.acc⟩ : Pane) = joinP agg p x := by
        unfold joinP
        simp only [Pane.mk.injEq, Span.mk.injEq]
        exact ⟨hc.1, ⟨by omega, by omega⟩, aggMerge_comm ..⟩
      have es : (l ++ [x]).set ((l ++ [x]).length - 1) (joinP agg p x) = l ++ [joinP agg p x] := by simp
      rw [e, es]
      constructor
      · unfold absorb
        have f1 : l.filter (fun y => !meets true p y) = l := List.filter_eq_self.2 (fun y hy => by rw [hno y hy]; rfl)
        have f2 : l.filter (meets true p) = [] := List.filter_eq_nil_iff.2 (fun y hy => by rw [hno y hy]; simp)
        rw [List.filter_append, List.filter_append, f1, f2]
        simp [hm, joinAll]
      · refine List.pairwise_append.2 ⟨hch, List.pairwise_singleton _ _, fun y hy z hz => ?_⟩
        rw [List.mem_singleton.1 hz]
        have := hx y hy
        unfold joinP; dsimp only
        omega
    · rename_i hc
      have hm : meets true p x = false := by rw [← Bool.not_eq_true, meets_true]; omega
      constructor
      · rw [absorb_none]
        rw [List.any_eq_false]
        intro y hy
        rcases List.mem_append.1 hy with hy | hy
        · rw [hno y hy]; simp
        · rw [List.mem_singleton.1 hy, hm]; simp
      · refine List.pairwise_append.2 ⟨h, List.pairwise_singleton _ _, fun y hy z hz => ?_⟩
        rw [List.mem_singleton.1 hz]
        rcases List.mem_append.1 hy with hy | hy
        · have := hx y hy
          omega
        · rw [List.mem_singleton.1 hy]; omega
theorem leK_of_not_less {x p : Pane} (h : lessP p x = false) : leK x p := by
  unfold lessP at h
  unfold leK
  (repeat' split at h) <;> simp only [decide_eq_false_iff_not] at h <;> omega
theorem leK_trans {x y z : Pane} (h : leK x y) (k : leK y z) : leK x z := by unfold leK at *; omega
theorem joinAll_le {agg : Int} {z : Pane} : ∀ (l : List Pane) (p : Pane), leK p z → (∀ x ∈ l, x.key = p.key) → leK (joinAll agg p l) z
  | [], _, h, _ => h
  | x :: l, p, h, hl => joinAll_le l (joinP agg p x) (by unfold leK joinP at *; dsimp only; omega) (fun y hy => hl y (List.mem_cons_of_mem _ hy))
theorem absorb_le {ses : Bool} {agg : Int} {out : List Pane} {p z : Pane} (h : ∀ x ∈ out, leK x z) (hp : leK p z) : ∀ x ∈ absorb ses agg out p, leK x z := by
  intro x hx
  unfold absorb at hx
  rcases List.mem_append.1 hx with hx | hx
  · exact h x (List.mem_filter.1 hx).1
  · rw [List.mem_singleton.1 hx]
    exact joinAll_le _ _ hp (fun y hy => meets_key (List.mem_filter.1 hy).2)
theorem joinFold_eq {agg : Int} : ∀ (E out : List Pane), Srt lessP E → (∀ p ∈ E, Pos p) → Chain out → (∀ x ∈ out, Pos x) → (∀ x ∈ out, ∀ p ∈ E, leK x p) → E.foldl (joinStep agg) out = gather true agg out E
  | [], _, _, _, _, _, _ => rfl
  | p :: E, out, hs, hE, hc, hpos, hle => by
    obtain ⟨s1, s2⟩ := List.pairwise_cons.1 hs
    have hp := hE p (List.mem_cons_self ..)
    obtain ⟨e, c⟩ := joinStep_eq (agg := agg) hc hpos hp (fun x hx => hle x hx p (List.mem_cons_self ..))
    show E.foldl (joinStep agg) (joinStep agg out p) = gather true agg (absorb true agg out p) E
    rw [e] at c ⊢
    exact joinFold_eq E _ s2 (fun x hx => hE x (List.mem_cons_of_mem _ hx)) c (absorb_pos hpos hp) (fun x hx z hz => absorb_le (fun y hy => hle y hy z (List.mem_cons_of_mem _ hz)) (leK_of_not_less (s1 z hz)) x hx)
theorem joinSes_eq {agg : Int} {E : List Pane} (hE : ∀ p ∈ E, Pos p) : joinSes agg E = gather true agg [] (sortP E) :=
  joinFold_eq _ _ (isort_srt lessP_to E) (fun p hp => hE p ((isort_perm E).mem_iff.1 hp)) List.Pairwise.nil (by simp) (by simp)
theorem joinSes_sorted {agg : Int} {E : List Pane} (hE : ∀ p ∈ E, Pos p) : sortP (joinSes agg E) = panesOf true agg E := by
  rw [joinSes_eq hE]
  exact isort_congr lessP_to (gather_perm (isort_perm E) (Good.nil _) (fun p hp => hE p ((isort_perm E).mem_iff.1 hp)))
/-! ### the program's map -/
def same (k : Int) (s : Span) (x : Pane) : Bool := decide (x.key = k) && decide (x.span = s)
/-- A value into the pane of a key and a span. -/
def accPut (agg : Int) (M : List Pane) (k : Int) (s : Span) (v : Int) : List Pane :=
  if M.any (same k s) then M.map (fun x => if same k s x then { x with acc := aggAdd agg x.acc v } else x) else M ++ [⟨k, s, aggAdd agg (aggZero agg) v⟩]
def Kept (agg : Int) (L : List Pane) : Prop := ∀ x ∈ L, aggMerge agg x.acc (aggZero agg) = x.acc
theorem same_meets (k : Int) (s : Span) (a : Int) (x : Pane) : meets false ⟨k, s, a⟩ x = same k s x := by unfold meets same; simp
theorem map_uniq {ses : Bool} {f : Pane → Pane} {g : Pane → Bool} : ∀ (M : List Pane), (∀ x ∈ M, ∀ y ∈ M, g x = true → g y = true → meets ses x y = true) → Apart ses M → ∀ x ∈ M, g x = true → (M.map (fun x => if g x then f x else x)).Perm (M.filter (fun x => !g x) ++ [f x]) ∧ M.filter g = [x]
  | y :: M, hg, ha, x, hx, hgx => by
    obtain ⟨a1, a2⟩ := List.pairwise_cons.1 ha
    by_cases hy : g y = true
    · have hn : ∀ z ∈ M, g z = false := fun z hz => by
        cases h : g z with
        | false => rfl
        | true => have := hg y (by simp) z (by simp [hz]) hy h; rw [a1 z hz] at this; cases this
      have hxy : x = y := by
        rcases List.mem_cons.1 hx with e | hx
        · exact e
        · rw [hn x hx] at hgx; cases hgx
      subst hxy
      constructor
      · rw [List.map_cons, if_pos hy, List.filter_cons, hy]
        rw [List.map_congr_left (g := id) (fun z hz => by rw [hn z hz]; rfl), List.map_id, List.filter_eq_self.2 (fun z hz => by rw [hn z hz]; rfl)]
        exact List.perm_append_comm (l₁ := [f x])
      · rw [List.filter_cons, if_pos hy, List.filter_eq_nil_iff.2 (fun z hz => by rw [hn z hz]; simp)]
    · have hx' : x ∈ M := by
        rcases List.mem_cons.1 hx with e | hx
        · subst e; exact absurd hgx hy
        · exact hx
      obtain ⟨i1, i2⟩ := map_uniq M (fun x hx y hy => hg x (by simp [hx]) y (by simp [hy])) a2 x hx' hgx
      constructor
      · rw [List.map_cons, if_neg hy, List.filter_cons, if_pos (by simpa using hy)]
        exact i1.cons y
      · rw [List.filter_cons, if_neg hy, i2]
theorem accPut_absorb {agg : Int} {M : List Pane} (hg : Good false M) (hk : Kept agg M) (k : Int) (s : Span) (v : Int) : (accPut agg M k s v).Perm (absorb false agg M ⟨k, s, aggAdd agg (aggZero agg) v⟩) := by
  unfold accPut
  split
  · rename_i h
    obtain ⟨x, hx, hs⟩ := List.any_eq_true.1 h
    obtain ⟨p1, p2⟩ := map_uniq (ses := false) (f := fun x => { x with acc := aggAdd agg x.acc v }) (g := same k s) M (fun x _ y _ h1 h2 => by
      rw [meets_false]; unfold same at h1 h2; simp only [Bool.and_eq_true, decide_eq_true_eq] at h1 h2; exact ⟨h2.1.trans h1.1.symm, h2.2.trans h1.2.symm⟩) hg.apart x hx hs
    refine p1.trans ?_
    unfold absorb
    rw [List.filter_congr (fun y _ => by rw [same_meets k s (aggAdd agg (aggZero agg) v) y] : ∀ y ∈ M, (!meets false ⟨k, s, aggAdd agg (aggZero agg) v⟩ y) = !same k s y)]
    rw [List.filter_congr (fun y _ => same_meets k s (aggAdd agg (aggZero agg) v) y : ∀ y ∈ M, meets false ⟨k, s, aggAdd agg (aggZero agg) v⟩ y = same k s y), p2]
    have e : ({ x with acc := aggAdd agg x.acc v } : Pane) = joinAll agg ⟨k, s, aggAdd agg (aggZero agg) v⟩ [x] := by
      unfold same at hs
      simp only [Bool.and_eq_true, decide_eq_true_eq] at hs
      show _ = joinP agg ⟨k, s, aggAdd agg (aggZero agg) v⟩ x
      unfold joinP
      dsimp only
      rw [aggAdd_one _ _ _ (hk x hx), hs.2, ← hs.1]
      cases s with | mk f t => simp
    rw [e]
  · rename_i h
    rw [absorb_none]
    rw [List.any_eq_false]
    intro x hx
    rw [same_meets]
    simp only [Bool.not_eq_true, List.any_eq_false] at h
    have := h x hx
    simpa using this
theorem absorb_kept {ses : Bool} {agg : Int} {L : List Pane} {p : Pane} (hL : Kept agg L) (hp : aggMerge agg p.acc (aggZero agg) = p.acc) : Kept agg (absorb ses agg L p) := by
  intro x hx
  unfold absorb at hx
  rcases List.mem_append.1 hx with hx | hx
  · exact hL x (List.mem_filter.1 hx).1
  · rw [List.mem_singleton.1 hx]
    exact joinAll_kept _ _ _ hp (fun y hy => hL y (List.mem_filter.1 hy).1)
/-- What a value is, alone. -/
def entry (agg : Int) (k : Int) (s : Span) (v : Int) : Pane := ⟨k, s, aggAdd agg (aggZero agg) v⟩
def accAll (agg : Int) (M : List Pane) (E : List (Int × Span × Int)) : List Pane := E.foldl (fun M x => accPut agg M x.1 x.2.1 x.2.2) M
theorem accAll_gather {agg : Int} : ∀ (E : List (Int × Span × Int)) (M L : List Pane), M.Perm L → Good false L → Kept agg L → (∀ x ∈ E, x.2.1.frm < x.2.1.to) → (accAll agg M E).Perm (gather false agg L (E.map (fun x => entry agg x.1 x.2.1 x.2.2)))
  | [], _, _, h, _, _, _ => h
  | (k, s, v) :: E, M, L, h, hg, hk, hE => by
    have hp : Pos (entry agg k s v) := hE _ (List.mem_cons_self ..)
    refine accAll_gather E _ (absorb false agg L (entry agg k s v)) ?_ (hg.absorb hp) (absorb_kept hk (aggZero_kept agg v)) (fun x hx => hE x (List.mem_cons_of_mem _ hx))
    exact (accPut_absorb (hg.perm h.symm) (fun x hx => hk x (h.mem_iff.1 hx)) k s v).trans (absorb_perm h _)
theorem accAll_sorted {agg : Int} (E : List (Int × Span × Int)) (hE : ∀ x ∈ E, x.2.1.frm < x.2.1.to) : sortP (accAll agg [] E) = panesOf false agg (E.map (fun x => entry agg x.1 x.2.1 x.2.2)) :=
  isort_congr lessP_to (accAll_gather E [] [] (.refl _) (Good.nil _) (by intro x hx; simp at hx) hE)
end Go.Proofs.YtkffjbijamfnoaaGreat
