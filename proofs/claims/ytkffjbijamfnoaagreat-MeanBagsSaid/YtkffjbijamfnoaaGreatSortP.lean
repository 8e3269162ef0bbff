/-
  Sorting under an order that parts whatever two that are not one. No program in this text.
-/
import Derived.Test.YtkffjbijamfnoaaGreatSmall
import Derived.Sort.LotA
set_option linter.unusedVariables false
set_option linter.unusedSimpArgs false
namespace Go.Proofs.YtkffjbijamfnoaaGreat
section
variable {α : Type} {lt : α → α → Bool}
/-- A strict order that parts whatever two that are not one. -/
structure TO (lt : α → α → Bool) : Prop where
  irr : ∀ x, lt x x = false
  tr : ∀ x y z, lt x y = true → lt y z = true → lt x z = true
  tri : ∀ x y, lt x y = false → lt y x = false → x = y
theorem TO.asym (h : TO lt) {x y : α} (h1 : lt x y = true) : lt y x = false := by
  cases h2 : lt y x with
  | false => rfl
  | true => exact absurd (h.tr _ _ _ h1 h2) (by rw [h.irr]; simp)
theorem TO.leT (h : TO lt) {x y z : α} (h1 : lt y x = false) (h2 : lt z y = false) : lt z x = false := by
  cases h3 : lt z x with
  | false => rfl
  | true =>
    cases h4 : lt x y with
    | true => exact absurd (h.tr _ _ _ h3 h4) (by rw [h2]; simp)
    | false =>
      obtain rfl := h.tri _ _ h4 h1
      rw [h2] at h3; cases h3
theorem TO.swo (h : TO lt) : Go.Sort.SWO lt := ⟨h.irr, h.tr, fun _ _ _ h1 h2 => h.leT h2 h1⟩
def Srt (lt : α → α → Bool) (l : List α) : Prop := l.Pairwise (fun x y => lt y x = false)
def ins (lt : α → α → Bool) (x : α) : List α → List α
  | [] => [x]
  | y :: l => if lt x y then x :: y :: l else y :: ins lt x l
def isort (lt : α → α → Bool) : List α → List α
  | [] => []
  | x :: l => ins lt x (isort lt l)
theorem ins_perm (x : α) : ∀ l : List α, (ins lt x l).Perm (x :: l)
  | [] => .refl _
  | y :: l => by
    unfold ins
    split
    · exact .refl _
    · exact ((ins_perm x l).cons y).trans (.swap x y l)
theorem isort_perm : ∀ l : List α, (isort lt l).Perm l
  | [] => .refl _
  | x :: l => (ins_perm x _).trans ((isort_perm l).cons x)
theorem isort_length (l : List α) : (isort lt l).length = l.length := (isort_perm l).length_eq
theorem ins_srt (h : TO lt) (x : α) : ∀ l : List α, Srt lt l → Srt lt (ins lt x l)
  | [], _ => List.pairwise_singleton _ _
  | y :: l, hs => by
    obtain ⟨h1, h2⟩ := List.pairwise_cons.1 hs
    unfold ins
    split
    · rename_i hxy
      refine List.pairwise_cons.2 ⟨fun z hz => ?_, hs⟩
      rcases List.mem_cons.1 hz with rfl | hz
      · exact h.asym hxy
      · exact h.leT (h.asym hxy) (h1 z hz)
    · rename_i hxy
      refine List.pairwise_cons.2 ⟨fun z hz => ?_, ins_srt h x l h2⟩
      rcases List.mem_cons.1 ((ins_perm x l).mem_iff.1 hz) with rfl | hz
      · simpa using hxy
      · exact h1 z hz
theorem isort_srt (h : TO lt) : ∀ l : List α, Srt lt (isort lt l)
  | [] => List.Pairwise.nil
  | x :: l => ins_srt h x _ (isort_srt h l)
theorem srt_uniq (h : TO lt) : ∀ {l l' : List α}, Srt lt l → Srt lt l' → l.Perm l' → l = l'
  | [], l', _, _, hp => (List.nil_perm.1 hp).symm
  | x :: l, [], _, _, hp => by have := hp.length_eq; simp at this
  | x :: l, y :: l', h1, h2, hp => by
    obtain ⟨a1, a2⟩ := List.pairwise_cons.1 h1
    obtain ⟨b1, b2⟩ := List.pairwise_cons.1 h2
    have e : x = y := by
      have m1 : x ∈ y :: l' := hp.mem_iff.1 (List.mem_cons_self ..)
      have m2 : y ∈ x :: l := hp.mem_iff.2 (List.mem_cons_self ..)
      rcases List.mem_cons.1 m1 with e | m1
      · exact e
      rcases List.mem_cons.1 m2 with e | m2
      · exact e.symm
      exact h.tri _ _ (b1 x m1) (a1 y m2)
    subst e
    rw [srt_uniq h a2 b2 (List.perm_cons x |>.1 hp)]
theorem isort_eq (h : TO lt) {l l' : List α} (hp : l'.Perm l) (hs : Srt lt l') : l' = isort lt l := srt_uniq h hs (isort_srt h l) (hp.trans (isort_perm l).symm)
theorem isort_congr (h : TO lt) {l l' : List α} (hp : l.Perm l') : isort lt l = isort lt l' := isort_eq h ((isort_perm l).trans hp) (isort_srt h l)
theorem isort_id (h : TO lt) {l : List α} (hs : Srt lt l) : isort lt l = l := (isort_eq h (.refl _) hs).symm
theorem isort_isort (h : TO lt) (l : List α) : isort lt (isort lt l) = isort lt l := isort_id h (isort_srt h l)
theorem isort_snoc (h : TO lt) (l : List α) (x : α) : isort lt (l ++ [x]) = ins lt x (isort lt l) :=
  (isort_eq h ((ins_perm x _).trans (((isort_perm l).cons x).trans (List.perm_append_comm (l₁ := [x])))) (ins_srt h x _ (isort_srt h l))).symm
theorem isort_take (h : TO lt) (l : List α) (k : Nat) (hk : k < l.length) : isort lt (l.take (k + 1)) = ins lt l[k] (isort lt (l.take k)) := by
  rw [List.take_succ_eq_append_getElem hk, isort_snoc h]
/-- Where one goes in. -/
theorem ins_at (h : TO lt) (x : α) : ∀ (l : List α) (k : Nat), k ≤ l.length → (∀ y ∈ l.take k, lt x y = false) → (∀ y ∈ l.drop k, lt x y = true) → ins lt x l = l.take k ++ x :: l.drop k
  | [], k, _, _, _ => by simp [ins]
  | y :: l, 0, _, _, h2 => by
    have := h2 y (by simp)
    simp [ins, this]
  | y :: l, k + 1, hk, h1, h2 => by
    have := h1 y (by simp)
    simp only [ins, this, Bool.false_eq_true, if_false, List.take_succ_cons, List.drop_succ_cons, List.cons_append]
    rw [ins_at h x l k (by simpa using hk) (fun z hz => h1 z (by simp [hz])) (fun z hz => h2 z (by simpa using hz))]
theorem srt_get {l : List α} (hs : Srt lt l) (i j : Nat) (hij : i < j) (hj : j < l.length) : lt l[j] (l[i]'(by omega)) = false := List.pairwise_iff_getElem.1 hs i j (by omega) hj hij
end
/-- By two records' keys, times, values. -/
theorem lessR_to : TO lessR where
  irr x := by simp [lessR]
  tr x y z h1 h2 := by
    unfold lessR at *
    (repeat' split at h1) <;> (repeat' split at h2) <;> (repeat' split) <;> simp only [decide_eq_true_eq] at * <;> omega
  tri x y h1 h2 := by
    obtain ⟨a, b, c⟩ := x
    obtain ⟨d, e, f⟩ := y
    unfold lessR at *
    simp only [ne_eq, Rec.mk.injEq] at *
    (repeat' split at h1) <;> (repeat' split at h2) <;> simp only [decide_eq_false_iff_not] at * <;> omega
theorem lessP_to : TO lessP where
  irr x := by simp [lessP]
  tr x y z h1 h2 := by
    unfold lessP at *
    (repeat' split at h1) <;> (repeat' split at h2) <;> (repeat' split) <;> simp only [decide_eq_true_eq] at * <;> omega
  tri x y h1 h2 := by
    obtain ⟨a, ⟨b, c⟩, e⟩ := x
    obtain ⟨a', ⟨b', c'⟩, e'⟩ := y
    unfold lessP at *
    simp only [ne_eq, Pane.mk.injEq, Span.mk.injEq] at *
    (repeat' split at h1) <;> (repeat' split at h2) <;> simp only [decide_eq_false_iff_not] at * <;> omega
abbrev sortR (l : List Rec) : List Rec := isort lessR l
abbrev sortP (l : List Pane) : List Pane := isort lessP l
end Go.Proofs.YtkffjbijamfnoaaGreat
