/-
  What a job means, in plain lists. No program in this text.
-/
import Derived.Test.YtkffjbijamfnoaaGreatPaneQ
import Derived.Test.YtkffjbijamfnoaaGreatOrdP
import Derived.Test.YtkffjbijamfnoaaGreatPlan
set_option linter.unusedVariables false
set_option linter.unusedSimpArgs false
namespace Go.Proofs.YtkffjbijamfnoaaGreat
/-! ### spans of a time -/
def slideBack (size slide t : Int) : Nat → Int → List Span
  | 0, _ => []
  | n + 1, s => if t < s + size then ⟨s, s + size⟩ :: slideBack size slide t n (s - slide) else []
def spansOf (w : Win) (t : Int) : List Span :=
  if w.kind = 1 then [⟨floorTo t w.size, floorTo t w.size + w.size⟩] else if w.kind = 3 then [⟨t, t + w.size⟩] else (slideBack w.size w.slide t 64 (floorTo t w.slide)).reverse
theorem winOk_size {w : Win} (h : winOk w = true) : 1 ≤ w.size ∧ w.size ≤ 68719476736 ∧ (w.kind = 1 ∨ w.kind = 2 ∨ w.kind = 3) ∧ (w.kind = 2 → 1 ≤ w.slide ∧ w.slide ≤ 68719476736) := by
  unfold winOk spanOk at h
  split at h
  · simp only [Bool.and_eq_true, decide_eq_true_eq] at h; omega
  · split at h
    · simp only [Bool.and_eq_true, decide_eq_true_eq] at h; omega
    · cases h
theorem floorTo_bd (t n : Int) (h : 1 ≤ n) : floorTo t n ≤ t ∧ t < floorTo t n + n := by
  unfold floorTo
  have := Int.emod_nonneg t (show n ≠ 0 by omega)
  have := Int.emod_lt_of_pos t (show 0 < n by omega)
  omega
def SpanIn (w : Win) (t : Int) (s : Span) : Prop := s.frm ≤ t ∧ t < s.to ∧ s.to ≤ t + w.size ∧ t - w.size ≤ s.frm
theorem slideBack_in {w : Win} {t : Int} : ∀ (n : Nat) (s : Int), s ≤ t → 1 ≤ w.slide → ∀ x ∈ slideBack w.size w.slide t n s, SpanIn w t x
  | 0, _, _, _, x, hx => by simp [slideBack] at hx
  | n + 1, s, hs, h1, x, hx => by
    unfold slideBack at hx
    split at hx
    · rcases List.mem_cons.1 hx with rfl | hx
      · unfold SpanIn; dsimp only; omega
      · exact slideBack_in n (s - w.slide) (by omega) h1 x hx
    · cases hx
theorem spansOf_in {w : Win} (h : winOk w = true) (t : Int) : ∀ s ∈ spansOf w t, SpanIn w t s := by
  obtain ⟨h1, h2, h3, h4⟩ := winOk_size h
  have hf := floorTo_bd t w.size h1
  intro s hs
  unfold spansOf at hs
  split at hs
  · rw [List.mem_singleton.1 hs]; unfold SpanIn; dsimp only; omega
  · split at hs
    · rw [List.mem_singleton.1 hs]; unfold SpanIn; dsimp only; omega
    · have hk := h4 (by omega)
      exact slideBack_in 64 _ (floorTo_bd t w.slide hk.1).1 hk.1 s (List.mem_reverse.1 hs)
theorem slideBack_len {w : Win} {t : Int} (h1 : 1 ≤ w.slide) : ∀ (n : Nat) (s : Int), s ≤ t → ((slideBack w.size w.slide t n s).length : Int) ≤ max 0 ((w.size - 1 - (t - s)) / w.slide + 1)
  | 0, _, _ => by simp [slideBack]; omega
  | n + 1, s, hs => by
    unfold slideBack
    split
    · rename_i h
      have ih := slideBack_len (t := t) h1 n (s - w.slide) (by omega)
      have e : (w.size - 1 - (t - (s - w.slide))) / w.slide = (w.size - 1 - (t - s)) / w.slide - 1 := by
        rw [show w.size - 1 - (t - (s - w.slide)) = (w.size - 1 - (t - s)) + (-1) * w.slide by omega, Int.add_mul_ediv_right _ _ (show w.slide ≠ 0 by omega)]; omega
      rw [e] at ih
      have h0 : 0 ≤ (w.size - 1 - (t - s)) / w.slide := Int.ediv_nonneg (by omega) (by omega)
      rw [List.length_cons]
      omega
    · simp; omega
theorem slideBack_times {w : Win} {t : Int} (h1 : 1 ≤ w.slide) (h2 : 1 ≤ w.size) (n : Nat) (s : Int) (hs : s ≤ t) : ((slideBack w.size w.slide t n s).length : Int) ≤ (w.size - 1) / w.slide + 1 := by
  have h := slideBack_len h1 n s hs
  have h3 : (w.size - 1 - (t - s)) / w.slide ≤ (w.size - 1) / w.slide := Int.ediv_le_ediv (by omega) (by omega)
  have h4 : 0 ≤ (w.size - 1) / w.slide := Int.ediv_nonneg (by omega) (by omega)
  omega
/-- Where the bound is not met, a greater one gives the same. -/
theorem slideBack_more {size slide t : Int} : ∀ (n k : Nat) (s : Int), (slideBack size slide t n s).length < n → slideBack size slide t (n + k) s = slideBack size slide t n s
  | 0, _, _, h => by omega
  | n + 1, k, s, h => by
    rw [show n + 1 + k = (n + k) + 1 by omega]
    unfold slideBack at h ⊢
    split
    · rename_i hc
      rw [if_pos hc, List.length_cons] at h
      rw [slideBack_more n k _ (by omega)]
    · rfl
theorem slideBack_full {w : Win} {t : Int} (h1 : 1 ≤ w.slide) (h2 : 1 ≤ w.size) (h3 : (w.size - 1) / w.slide + 1 ≤ 64) (k : Nat) (s : Int) (hs : s ≤ t) : slideBack w.size w.slide t (64 + k) s = slideBack w.size w.slide t 64 s := by
  have e : ∀ n, slideBack w.size w.slide t (65 + n) s = slideBack w.size w.slide t 65 s := fun n => slideBack_more 65 n s (by have := slideBack_times (t := t) h1 h2 65 s hs; omega)
  have a : ∀ (n : Nat) (s : Int), (slideBack w.size w.slide t (n + 1) s).length ≤ n → slideBack w.size w.slide t (n + 1) s = slideBack w.size w.slide t n s := by
    intro n
    induction n with
    | zero => intro s h; rw [List.eq_nil_of_length_eq_zero (Nat.le_zero.1 h)]; rfl
    | succ n ih =>
      intro s h
      unfold slideBack at h ⊢
      split
      · rename_i hc
        rw [if_pos hc, List.length_cons] at h
        rw [ih _ (by omega)]
      · rfl
  have h65 : slideBack w.size w.slide t 65 s = slideBack w.size w.slide t 64 s := a 64 s (by have := slideBack_times (t := t) h1 h2 (64 + 1) s hs; omega)
  cases k with
  | zero => rfl
  | succ k => rw [show 64 + (k + 1) = 65 + k by omega, e k, h65]
def fanOf (n : Node) : Nat := if n.kind = 7 ∧ n.win.kind = 2 then (times n).toNat else 1
def whole : Span := ⟨-9223372036854775808, 2199023255553⟩
def nodeSpans (n : Node) (t : Int) : List Span := if n.kind = 7 then spansOf n.win t else [whole]
def sesOf (n : Node) : Bool := decide (n.kind = 7) && decide (n.win.kind = 3)
theorem nodeSpans_len {n : Node} (hw : n.kind = 7 → winOk n.win = true) (t : Int) : (nodeSpans n t).length ≤ fanOf n := by
  unfold nodeSpans fanOf
  split
  · rename_i h
    obtain ⟨h1, h2, h3, h4⟩ := winOk_size (hw h)
    unfold spansOf
    by_cases k2 : n.win.kind = 2
    · rw [if_neg (by omega), if_neg (by omega), if_pos ⟨h, k2⟩, List.length_reverse]
      have := slideBack_times (w := n.win) (t := t) (h4 k2).1 h1 64 _ (floorTo_bd t n.win.slide (h4 k2).1).1
      unfold times
      omega
    · rw [if_neg (show ¬ (n.kind = 7 ∧ n.win.kind = 2) from fun h => k2 h.2)]
      split
      · simp
      · rw [if_pos (by omega)]; simp
  · rename_i h
    rw [if_neg (fun h' => h h'.1)]
    simp
def entriesOf (n : Node) (l : List Rec) : List Pane := l.flatMap (fun r => (nodeSpans n r.time).map (fun s => entry n.agg r.key s r.val))
def nodePanes (n : Node) (l : List Rec) : List Pane := panesOf (sesOf n) n.agg (entriesOf n l)
def fired (mark : Int) (p : Pane) : Bool := decide (p.span.to - 1 ≤ mark)
def fireRecs (mark : Int) (P : List Pane) : List Rec := (P.filter (fired mark)).map (fun p => ⟨p.key, p.span.to - 1, p.acc⟩)
def fireLeft (mark : Int) (P : List Pane) : List Pane := P.filter (fun p => !fired mark p)
abbrev maxMark : Int := 9223372036854775807
abbrev minMark : Int := -9223372036854775808
/-- What comes out of a node, and is left. -/
def workOf (n : Node) (l : List Rec) (mark : Int) : List Rec × List Pane :=
  if n.kind = 2 then (l.map (fun r => { r with val := n.e.value r }), [])
  else if n.kind = 3 then (l.filter (fun r => decide (n.e.value r ≠ 0)), [])
  else if n.kind = 4 then (l.map (fun r => { r with key := n.e.value r }), [])
  else if n.kind = 6 then (if mark ≠ maxMark then ([], nodePanes n l) else (fireRecs mark (nodePanes n l), fireLeft mark (nodePanes n l)))
  else if n.kind = 7 then (fireRecs mark (nodePanes n l), fireLeft mark (nodePanes n l))
  else (l, [])
/-! ### what is read -/
def offOf (offs : List (List Int)) (i p n : Nat) : Nat := match (offs[i]?).bind (fun l => l[p]?) with
  | none => n
  | some o => (min (max o 0) n).toNat
def readPart (offs : List (List Int)) (i p : Nat) (items : List Item) : List Item := items.take (offOf offs i p items.length)
def readOf (offs : List (List Int)) (i : Nat) (ps : List (List Item)) : List (List Item) := ps.mapIdx (fun p items => readPart offs i p items)
def partRecs (items : List Item) : List Rec := ((late items).filter (fun x => decide (x.kind = 1))).map (·.rcd)
def recsOf (ps : List (List Item)) : List Rec := ps.flatMap partRecs
/-! ### node by node -/
def outAt (st : List (List Rec × List Pane)) (k : Int) : List Rec := ((st[k.toNat]?).map (·.1)).getD []
def inOf (ns : List Node) (l : Logs) (offs : List (List Int)) (st : List (List Rec × List Pane)) (i : Int) : List Rec :=
  recsOf (readOf offs i.toNat ((l[i.toNat]?).getD [])) ++ (insOf ns i).flatMap (outAt st)
def nodeStep (ns : List Node) (l : Logs) (offs : List (List Int)) (mk : Int → Int) (st : List (List Rec × List Pane)) (i : Int) : List Rec × List Pane :=
  ((ns[i.toNat]?).map (fun n => let o := workOf n (inOf ns l offs st i) (mk i); (sortR o.1, o.2))).getD ([], [])
def runAll (ns : List Node) (l : Logs) (offs : List (List Int)) (mk : Int → Int) : List (List Rec × List Pane) := goF (nodeStep ns l offs mk) (order ns) (List.replicate ns.length ([], []))
def meanAll (ns : List Node) (l : Logs) : List (List Rec) := if jobErr ns = 0 ∧ logsErr ns l = 0 then (runAll ns l [] (fun _ => maxMark)).map (·.1) else []
theorem flatMap_congr' {α β : Type} {f g : α → List β} : ∀ (l : List α), (∀ x ∈ l, f x = g x) → l.flatMap f = l.flatMap g
  | [], _ => rfl
  | x :: l, h => by rw [List.flatMap_cons, List.flatMap_cons, h x (List.mem_cons_self ..), flatMap_congr' l (fun y hy => h y (List.mem_cons_of_mem _ hy))]
theorem outAt_congr {st st' : List (List Rec × List Pane)} {k : Int} (h : st[k.toNat]? = st'[k.toNat]?) : outAt st k = outAt st' k := by unfold outAt; rw [h]
theorem inOf_congr {ns : List Node} {l : Logs} {offs : List (List Int)} {st st' : List (List Rec × List Pane)} {i : Int} (h : ∀ k ∈ insOf ns i, st[k.toNat]? = st'[k.toNat]?) : inOf ns l offs st i = inOf ns l offs st' i := by
  unfold inOf
  congr 1
  exact flatMap_congr' _ (fun k hk => outAt_congr (h k hk))
end Go.Proofs.YtkffjbijamfnoaaGreat
