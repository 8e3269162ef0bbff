/-
  A map of panes. No program in this text.
-/
import Derived.Test.YtkffjbijamfnoaaGreatBag
set_option linter.unusedVariables false
set_option linter.unusedSimpArgs false
namespace Go.Proofs.YtkffjbijamfnoaaGreat
def paneOf (p : (Int × Span) × Int) : Pane := ⟨p.1.1, p.1.2, p.2⟩
def accGet (agg : Int) (k : Int × Span) (M : List ((Int × Span) × Int)) : Int := if (kFind k M).isSome then mGet k M else aggZero agg
def accM (agg : Int) (M : List ((Int × Span) × Int)) (E : List (Int × Span × Int)) : List ((Int × Span) × Int) := E.foldl (fun M x => mPut (x.1, x.2.1) (aggAdd agg (accGet agg (x.1, x.2.1) M) x.2.2) M) M
def trips (n : Node) (l : List Rec) : List (Int × Span × Int) := l.flatMap (fun r => (nodeSpans n r.time).map (fun s => (r.key, s, r.val)))
def ent (agg : Int) (x : Int × Span × Int) : Pane := entry agg x.1 x.2.1 x.2.2
theorem trips_entries (n : Node) (l : List Rec) : (trips n l).map (ent n.agg) = entriesOf n l := by
  unfold trips entriesOf ent
  induction l with
  | nil => rfl
  | cons r l ih => simp only [List.flatMap_cons, List.map_append, List.map_map, ih]; rfl
theorem same_paneOf (k : Int) (s : Span) (p : (Int × Span) × Int) : same k s (paneOf p) = decide ((k, s) = p.1) := by
  obtain ⟨⟨a, b⟩, v⟩ := p
  unfold same paneOf
  by_cases h1 : a = k
  · by_cases h2 : b = s
    · subst h1 h2; simp
    · simp [h1, h2, Ne.symm h2]
  · simp [h1, Ne.symm h1]
theorem any_same (k : Int) (s : Span) (M : List ((Int × Span) × Int)) : (M.map paneOf).any (same k s) = (kFind (k, s) M).isSome := by
  unfold kFind
  rw [List.findIdx?_isSome, List.any_map]
  congr 1
  funext p
  exact same_paneOf k s p
theorem accPut_put {agg : Int} {M : List ((Int × Span) × Int)} (hk : Keyed M) (k : Int) (s : Span) (v : Int) : accPut agg (M.map paneOf) k s v = (mPut (k, s) (aggAdd agg (accGet agg (k, s) M) v) M).map paneOf := by
  unfold accPut accGet
  rw [any_same]
  unfold mPut
  cases hf : kFind (k, s) M with
  | none => simp [paneOf]
  | some j =>
    obtain ⟨hj, he⟩ := kFind_lt hf
    simp only [Option.isSome_some, if_true]
    have hg : mGet (k, s) M = M[j].2 := mGet_mem hk (by rw [← he]; exact List.getElem_mem hj)
    rw [hg]
    apply List.ext_getElem (by simp)
    intro i h1 h2
    have hi : i < M.length := by simpa using h1
    simp only [List.getElem_map, List.getElem_set]
    rw [same_paneOf]
    by_cases e : j = i
    · subst e
      simp [he, paneOf]
    · rw [if_neg e]
      have hne : (k, s) ≠ M[i].1 := fun e2 => by
        rcases Nat.lt_or_gt_of_ne e with h3 | h3
        · exact List.pairwise_iff_getElem.1 hk j i hj hi h3 (he.trans e2)
        · exact List.pairwise_iff_getElem.1 hk i j hi hj h3 (he.trans e2).symm
      simp [hne]
theorem accM_all {agg : Int} : ∀ (E : List (Int × Span × Int)) (M : List ((Int × Span) × Int)), Keyed M → accAll agg (M.map paneOf) E = (accM agg M E).map paneOf ∧ Keyed (accM agg M E)
  | [], M, h => ⟨rfl, h⟩
  | x :: E, M, h => by
    have ih := accM_all (agg := agg) E (mPut (x.1, x.2.1) (aggAdd agg (accGet agg (x.1, x.2.1) M) x.2.2) M) (mPut_keyed h)
    refine ⟨?_, ih.2⟩
    show accAll agg (accPut agg (M.map paneOf) x.1 x.2.1 x.2.2) E = _
    rw [accPut_put h]
    exact ih.1
theorem accM_len {agg : Int} : ∀ (E : List (Int × Span × Int)) (M : List ((Int × Span) × Int)), (accM agg M E).length ≤ M.length + E.length
  | [], M => by simp [accM]
  | x :: E, M => by
    have ih := accM_len (agg := agg) E (mPut (x.1, x.2.1) (aggAdd agg (accGet agg (x.1, x.2.1) M) x.2.2) M)
    have h1 : (mPut (x.1, x.2.1) (aggAdd agg (accGet agg (x.1, x.2.1) M) x.2.2) M).length ≤ M.length + 1 := by
      unfold mPut
      split
      · rw [List.length_set]; omega
      · simp
    show (accM agg (mPut (x.1, x.2.1) (aggAdd agg (accGet agg (x.1, x.2.1) M) x.2.2) M) E).length ≤ _
    rw [List.length_cons]; omega
theorem accM_snoc (agg : Int) (M : List ((Int × Span) × Int)) (E : List (Int × Span × Int)) (x : Int × Span × Int) : accM agg M (E ++ [x]) = mPut (x.1, x.2.1) (aggAdd agg (accGet agg (x.1, x.2.1) (accM agg M E)) x.2.2) (accM agg M E) := by
  unfold accM; rw [List.foldl_append]; rfl
/-- What has been put down of the first ones. -/
def mapT (n : Node) (T : List (Int × Span × Int)) : List ((Int × Span) × Int) := if n.win.kind = 3 then [] else accM n.agg [] T
def sesT (n : Node) (T : List (Int × Span × Int)) : List Pane := if n.win.kind = 3 then T.map (ent n.agg) else []
theorem trips_take (n : Node) (l : List Rec) (k : Nat) (hk : k < l.length) : trips n (l.take (k + 1)) = trips n (l.take k) ++ (nodeSpans n l[k].time).map (fun s => (l[k].key, s, l[k].val)) := by
  unfold trips
  rw [List.take_succ_eq_append_getElem hk, List.flatMap_append, List.flatMap_singleton]
theorem trips_len {n : Node} (hw : n.kind = 7 → winOk n.win = true) (l : List Rec) : (trips n l).length ≤ fanOf n * l.length :=
  flatMap_len l (fun r _ => by rw [List.length_map]; exact nodeSpans_len hw r.time)
theorem nodePanes_eq {n : Node} {l : List Rec} {out : List Pane} (hw : n.kind = 7 → winOk n.win = true) (h3 : n.win.kind = 3 → n.kind = 7) (hp : out.Perm ((mapT n (trips n l)).map paneOf)) : sortP (out ++ joinSes n.agg (sesT n (trips n l))) = nodePanes n l := by
  have hpos : ∀ x ∈ trips n l, x.2.1.frm < x.2.1.to := fun x hx => by
    obtain ⟨r, hr, hx⟩ := List.mem_flatMap.1 hx
    obtain ⟨s, hs, rfl⟩ := List.mem_map.1 hx
    unfold nodeSpans at hs
    split at hs
    · rename_i h7
      have := spansOf_in (hw h7) r.time s hs
      unfold SpanIn at this
      dsimp only
      omega
    · rw [List.mem_singleton.1 hs]; unfold whole; dsimp only; omega
  unfold nodePanes mapT sesT at *
  by_cases hs : n.win.kind = 3
  · rw [if_pos hs] at hp ⊢
    have : out = [] := by simpa using hp
    subst this
    have e : sesOf n = true := by unfold sesOf; rw [decide_eq_true hs, decide_eq_true (h3 hs)]; rfl
    rw [e, List.nil_append, trips_entries, joinSes_sorted]
    intro p hp
    rw [← trips_entries] at hp
    obtain ⟨x, hx, rfl⟩ := List.mem_map.1 hp
    exact hpos x hx
  · rw [if_neg hs] at hp ⊢
    have e : sesOf n = false := by unfold sesOf; rw [decide_eq_false hs]; simp
    rw [e, show joinSes n.agg [] = [] from rfl, List.append_nil, ← trips_entries]
    show isort lessP out = _
    rw [isort_congr lessP_to hp, ← (accM_all _ [] List.Pairwise.nil).1]
    exact accAll_sorted _ hpos
theorem perm_of_seen {α : Type} [Inhabited α] (M : List α) (seen : List Nat) (h1 : seen.Nodup) (h2 : ∀ i ∈ seen, i < M.length) (h3 : ∀ i, i < M.length → i ∈ seen) : (seen.map (fun i => M.getD i default)).Perm M := by
  have hp : seen.Perm (List.range M.length) := (List.perm_ext_iff_of_nodup h1 List.nodup_range).2 (fun i => ⟨fun h => List.mem_range.2 (h2 i h), fun h => h3 i (List.mem_range.1 h)⟩)
  refine (hp.map _).trans ?_
  have : (List.range M.length).map (fun i => M.getD i default) = M := by
    apply List.ext_getElem (by simp)
    intro i a b
    simp [List.getD_eq_getElem?_getD, List.getElem?_eq_getElem b]
  rw [this]
end Go.Proofs.YtkffjbijamfnoaaGreat
