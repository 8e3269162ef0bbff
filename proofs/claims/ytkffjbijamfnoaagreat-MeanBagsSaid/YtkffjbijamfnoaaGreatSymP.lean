/-
  What rotations and merges in place do, on arrays. No program in this text.
-/
import Derived.Test.YtkffjbijamfnoaaGreatSortP
set_option linter.unusedVariables false
set_option linter.unusedSimpArgs false
namespace Go.Proofs.YtkffjbijamfnoaaGreat
open Go.Sort
section
variable {α : Type} [Inhabited α] {lt : α → α → Bool}
/-- Two blocks, exchanged. -/
def swpR (d : Array α) (a b : Nat) : Nat → Array α
  | 0 => d
  | n + 1 => swp (swpR d a b n) (a + n) (b + n)
theorem swpR_size (d : Array α) (a b : Nat) : ∀ n, (swpR d a b n).size = d.size
  | 0 => rfl
  | n + 1 => by rw [swpR, size_swp, swpR_size d a b n]
theorem swpR_other (d : Array α) (a b : Nat) : ∀ (n i : Nat), (i < a ∨ a + n ≤ i) → (i < b ∨ b + n ≤ i) → (swpR d a b n)[i]! = d[i]!
  | 0, _, _, _ => rfl
  | n + 1, i, h1, h2 => by rw [swpR, swp_other _ _ _ _ (by omega) (by omega), swpR_other d a b n i (by omega) (by omega)]
theorem swpR_left (d : Array α) (a b : Nat) : ∀ (n i : Nat), a + n ≤ b → b + n ≤ d.size → a ≤ i → i < a + n → (swpR d a b n)[i]! = d[b + (i - a)]!
  | 0, _, _, _, _, _ => by omega
  | n + 1, i, h1, h2, h3, h4 => by
    rw [swpR]
    by_cases e : i = a + n
    · subst e
      rw [swp_left _ _ _ (by rw [swpR_size]; omega) (by omega), swpR_other d a b n _ (by omega) (by omega)]
      congr 1; omega
    · rw [swp_other _ _ _ _ e (by omega), swpR_left d a b n i (by omega) (by omega) h3 (by omega)]
theorem swpR_right (d : Array α) (a b : Nat) : ∀ (n i : Nat), a + n ≤ b → b + n ≤ d.size → b ≤ i → i < b + n → (swpR d a b n)[i]! = d[a + (i - b)]!
  | 0, _, _, _, _, _ => by omega
  | n + 1, i, h1, h2, h3, h4 => by
    rw [swpR]
    by_cases e : i = b + n
    · subst e
      rw [swp_right _ _ _ (by rw [swpR_size]; omega), swpR_other d a b n _ (by omega) (by omega)]
      congr 1; omega
    · rw [swp_other _ _ _ _ (by omega) e, swpR_right d a b n i (by omega) (by omega) h3 (by omega)]
theorem swpR_perm (d : Array α) (a b lo hi : Nat) : ∀ n, lo ≤ a → a + n ≤ hi → lo ≤ b → b + n ≤ hi → hi ≤ d.size → PermIn lo hi d (swpR d a b n)
  | 0, _, _, _, _, _ => permIn_refl _ _ _
  | n + 1, h1, h2, h3, h4, h5 => permIn_trans _ _ _ _ _ (swpR_perm d a b lo hi n h1 (by omega) h3 (by omega) h5) (swp_permIn _ _ _ _ _ (by omega) (by omega) (by omega) (by omega) (by rw [swpR_size]; exact h5))
/-- What a rotation does. -/
structure Rot (a m b : Nat) (d d' : Array α) : Prop where
  perm : PermIn a b d d'
  left : ∀ i, a ≤ i → i < a + (b - m) → d'[i]! = d[m + (i - a)]!
  right : ∀ i, a + (b - m) ≤ i → i < b → d'[i]! = d[i - (b - m)]!
theorem Rot.size {a m b : Nat} {d d' : Array α} (h : Rot a m b d d') : d'.size = d.size := h.perm.1
theorem Rot.out {a m b : Nat} {d d' : Array α} (h : Rot a m b d d') (i : Nat) (hi : i < a ∨ b ≤ i) : d'[i]! = d[i]! := h.perm.2.1 i hi
theorem rot_more {m i j : Nat} {d d' : Array α} (hj : 0 < j) (hij : j < i) (hm : i ≤ m) (hs : m + j ≤ d.size) (h : Rot (m - i + j) m (m + j) (swpR d (m - i) m j) d') : Rot (m - i) m (m + j) d d' where
  perm := permIn_trans _ _ _ _ _ (swpR_perm d (m - i) m (m - i) (m + j) j (by omega) (by omega) (by omega) (by omega) hs) (permIn_mono _ _ _ _ _ _ (by omega) (by omega) (by rw [swpR_size]; exact hs) h.perm)
  left k h1 h2 := by
    rw [h.out k (by omega), swpR_left d _ _ _ k (by omega) (by omega) h1 (by omega)]
  right k h1 h2 := by
    by_cases h3 : k < m - i + j + j
    · rw [h.left k (by omega) (by omega), swpR_right d _ _ _ _ (by omega) (by omega) (by omega) (by omega)]
      congr 1; omega
    · rw [h.right k (by omega) (by omega), swpR_other d _ _ _ _ (by omega) (by omega)]
theorem rot_less {m i j : Nat} {d d' : Array α} (hi : 0 < i) (hij : i < j) (hm : i ≤ m) (hs : m + j ≤ d.size) (h : Rot (m - i) m (m + j - i) (swpR d (m - i) (m + j - i) i) d') : Rot (m - i) m (m + j) d d' where
  perm := permIn_trans _ _ _ _ _ (swpR_perm d (m - i) (m + j - i) (m - i) (m + j) i (by omega) (by omega) (by omega) (by omega) hs) (permIn_mono _ _ _ _ _ _ (by omega) (by omega) (by rw [swpR_size]; exact hs) h.perm)
  left k h1 h2 := by
    by_cases h3 : k < m - i + (j - i)
    · rw [h.left k (by omega) (by omega), swpR_other d _ _ _ _ (by omega) (by omega)]
    · by_cases h4 : k < m + j - i
      · rw [h.right k (by omega) h4, swpR_left d _ _ _ _ (by omega) (by omega) (by omega) (by omega)]
        congr 1; omega
      · omega
  right k h1 h2 := by
    rw [h.out k (by omega), swpR_right d _ _ _ k (by omega) (by omega) (by omega) (by omega)]
    congr 1; omega
theorem rot_same {m i : Nat} {d : Array α} (hi : 0 < i) (hm : i ≤ m) (hs : m + i ≤ d.size) : Rot (m - i) m (m + i) d (swpR d (m - i) m i) where
  perm := swpR_perm d (m - i) m (m - i) (m + i) i (by omega) (by omega) (by omega) (by omega) hs
  left k h1 h2 := swpR_left d _ _ _ k (by omega) (by omega) h1 (by omega)
  right k h1 h2 := by
    rw [swpR_right d _ _ _ k (by omega) (by omega) (by omega) (by omega)]
    congr 1; omega
/-- What lies where behind a merge's turning. -/
structure Sym (a start m mid en b : Nat) (d d1 : Array α) : Prop where
  ord : a ≤ start ∧ start ≤ m ∧ start ≤ mid ∧ mid ≤ en ∧ m ≤ en ∧ en ≤ b ∧ start + en = mid + m ∧ b ≤ d.size
  perm : PermIn a b d d1
  out : ∀ i, i < start ∨ en ≤ i → d1[i]! = d[i]!
  left : ∀ i, start ≤ i → i < mid → d1[i]! = d[m + (i - start)]!
  right : ∀ i, mid ≤ i → i < en → d1[i]! = d[start + (i - mid)]!
theorem Sym.turned {a start m mid en b : Nat} {d d1 : Array α} (ho : a ≤ start ∧ start ≤ m ∧ start ≤ mid ∧ mid ≤ en ∧ m ≤ en ∧ en ≤ b ∧ start + en = mid + m ∧ b ≤ d.size) (h : Rot start m en d d1) : Sym a start m mid en b d d1 where
  ord := ho
  perm := permIn_mono _ _ _ _ _ _ (by omega) (by omega) (by omega) h.perm
  out := h.out
  left i h1 h2 := h.left i h1 (by omega)
  right i h1 h2 := by rw [h.right i (by omega) h2]; congr 1; omega
theorem Sym.same {a start m mid en b : Nat} {d : Array α} (ho : a ≤ start ∧ start ≤ m ∧ start ≤ mid ∧ mid ≤ en ∧ m ≤ en ∧ en ≤ b ∧ start + en = mid + m ∧ b ≤ d.size) (h : ¬ (start < m ∧ m < en)) : Sym a start m mid en b d d where
  ord := ho
  perm := permIn_refl _ _ _
  out _ _ := rfl
  left i h1 h2 := by congr 1; omega
  right i h1 h2 := by congr 1; omega
theorem le_refl' (h : TO lt) {d : Array α} {a b : Nat} (hs : SortedIn lt a b d) (i j : Nat) (h1 : a ≤ i) (h2 : i ≤ j) (h3 : j < b) : lt d[j]! d[i]! = false := by
  rcases Nat.lt_or_ge i j with h4 | h4
  · exact hs i j h1 h4 h3
  · obtain rfl : i = j := by omega
    exact h.irr _
section
variable {a start m mid en b : Nat} {d d1 : Array α} (S : Sym a start m mid en b d d1) (h : TO lt) (hs1 : SortedIn lt a m d) (hs2 : SortedIn lt m b d)
include S hs1 hs2
theorem Sym.s1 : SortedIn lt a start d1 := fun i j h1 h2 h3 => by
  have _ := hs2
  have := S.ord
  rw [S.out i (by omega), S.out j (by omega)]; exact hs1 i j h1 h2 (by omega)
theorem Sym.s2 : SortedIn lt start mid d1 := fun i j h1 h2 h3 => by
  have _ := hs1
  have := S.ord
  rw [S.left i (by omega) (by omega), S.left j (by omega) (by omega)]; exact hs2 _ _ (by omega) (by omega) (by omega)
theorem Sym.s3 : SortedIn lt mid en d1 := fun i j h1 h2 h3 => by
  have _ := hs2
  have := S.ord
  rw [S.right i (by omega) (by omega), S.right j (by omega) (by omega)]; exact hs1 _ _ (by omega) (by omega) (by omega)
theorem Sym.s4 : SortedIn lt en b d1 := fun i j h1 h2 h3 => by
  have _ := hs1
  have := S.ord
  rw [S.out i (by omega), S.out j (by omega)]; exact hs2 i j (by omega) h2 h3
include h
theorem Sym.cross (hL : a < start → en < b → lt d[en]! d[start - 1]! = false) (hR : start < m → m < en → lt d[start]! d[en - 1]! = false) (i j : Nat) (h1 : a ≤ i) (h2 : i < mid) (h3 : mid ≤ j) (h4 : j < b) : lt d1[j]! d1[i]! = false := by
  have := S.ord
  by_cases hi : i < start
  · rw [S.out i (by omega)]
    by_cases hj : j < en
    · rw [S.right j h3 hj]; exact hs1 _ _ h1 (by omega) (by omega)
    · rw [S.out j (by omega)]
      exact h.leT (h.leT (le_refl' h hs1 i (start - 1) h1 (by omega) (by omega)) (hL (by omega) (by omega))) (le_refl' h hs2 en j (by omega) (by omega) h4)
  · rw [S.left i (by omega) h2]
    by_cases hj : j < en
    · rw [S.right j h3 hj]
      exact h.leT (h.leT (le_refl' h hs2 (m + (i - start)) (en - 1) (by omega) (by omega) (by omega)) (hR (by omega) (by omega))) (le_refl' h hs1 start (start + (j - mid)) (by omega) (by omega) (by omega))
    · rw [S.out j (by omega)]; exact hs2 _ _ (by omega) (by omega) h4
end
/-- Sorted halves, the one below the other. -/
theorem sorted_join (h : TO lt) {a mid b : Nat} {d1 d3 : Array α} (hb : b ≤ d1.size) (hm1 : a ≤ mid) (hm2 : mid ≤ b) (hc : ∀ i j, a ≤ i → i < mid → mid ≤ j → j < b → lt d1[j]! d1[i]! = false) {d2 : Array α} (p1 : PermIn a mid d1 d2) (s1 : SortedIn lt a mid d2) (p2 : PermIn mid b d2 d3) (s2 : SortedIn lt mid b d3) : PermIn a b d1 d3 ∧ SortedIn lt a b d3 := by
  have hb2 : b ≤ d2.size := by rw [p1.1]; exact hb
  refine ⟨permIn_trans _ _ _ _ _ (permIn_mono _ _ _ _ _ _ (Nat.le_refl _) hm2 hb p1) (permIn_mono _ _ _ _ _ _ hm1 (Nat.le_refl _) hb2 p2), fun i j h1 h2 h3 => ?_⟩
  by_cases hi : i < mid
  · by_cases hj : j < mid
    · rw [p2.2.1 i (by omega), p2.2.1 j (by omega)]; exact s1 i j h1 h2 hj
    · rw [p2.2.1 i (by omega)]
      have k1 : ∀ j, mid ≤ j → j < b → lt d2[j]! d2[i]! = false := fun j h5 h6 => by
        rw [p1.2.1 j (by omega)]
        exact permIn_all d1 d2 a mid (fun x => lt d1[j]! x = false) (by omega) p1 (fun k h7 h8 => hc k j h7 h8 h5 h6) i h1 hi
      exact permIn_all d2 d3 mid b (fun x => lt x d2[i]! = false) hb2 p2 k1 j (by omega) h3
  · exact s2 i j (by omega) h2 h3
/-- One in line, brought to its place. -/
def shiftUp (d : Array α) (a : Nat) : Nat → Array α
  | 0 => d
  | n + 1 => swp (shiftUp d a n) (a + n) (a + n + 1)
theorem shiftUp_size (d : Array α) (a : Nat) : ∀ n, (shiftUp d a n).size = d.size
  | 0 => rfl
  | n + 1 => by rw [shiftUp, size_swp, shiftUp_size d a n]
theorem shiftUp_other (d : Array α) (a : Nat) : ∀ (n i : Nat), (i < a ∨ a + n < i) → (shiftUp d a n)[i]! = d[i]!
  | 0, _, _ => rfl
  | n + 1, i, h1 => by rw [shiftUp, swp_other _ _ _ _ (by omega) (by omega), shiftUp_other d a n i (by omega)]
theorem shiftUp_at (d : Array α) (a : Nat) : ∀ n, a + n < d.size → (shiftUp d a n)[a + n]! = d[a]!
  | 0, _ => rfl
  | n + 1, h => by rw [shiftUp, show a + (n + 1) = a + n + 1 by omega, swp_right _ _ _ (by rw [shiftUp_size]; omega), shiftUp_at d a n (by omega)]
theorem shiftUp_mid (d : Array α) (a : Nat) : ∀ (n i : Nat), a + n < d.size → a ≤ i → i < a + n → (shiftUp d a n)[i]! = d[i + 1]!
  | 0, _, _, _, _ => by omega
  | n + 1, i, h, h1, h2 => by
    rw [shiftUp]
    by_cases e : i = a + n
    · subst e
      rw [swp_left _ _ _ (by rw [shiftUp_size]; omega) (by omega), shiftUp_other d a n _ (by omega)]
    · rw [swp_other _ _ _ _ e (by omega), shiftUp_mid d a n i (by omega) h1 (by omega)]
theorem shiftUp_perm (d : Array α) (a lo hi : Nat) : ∀ n, lo ≤ a → a + n < hi → hi ≤ d.size → PermIn lo hi d (shiftUp d a n)
  | 0, _, _, _ => permIn_refl _ _ _
  | n + 1, h1, h2, h3 => permIn_trans _ _ _ _ _ (shiftUp_perm d a lo hi n h1 (by omega) h3) (swp_permIn _ _ _ _ _ (by omega) (by omega) (by omega) (by omega) (by rw [shiftUp_size]; exact h3))
def shiftDn (d : Array α) (m : Nat) : Nat → Array α
  | 0 => d
  | n + 1 => swp (shiftDn d m n) (m - n) (m - n - 1)
theorem shiftDn_size (d : Array α) (m : Nat) : ∀ n, (shiftDn d m n).size = d.size
  | 0 => rfl
  | n + 1 => by rw [shiftDn, size_swp, shiftDn_size d m n]
theorem shiftDn_other (d : Array α) (m : Nat) : ∀ (n i : Nat), n ≤ m → (i < m - n ∨ m < i) → (shiftDn d m n)[i]! = d[i]!
  | 0, _, _, _ => rfl
  | n + 1, i, h, h1 => by rw [shiftDn, swp_other _ _ _ _ (by omega) (by omega), shiftDn_other d m n i (by omega) (by omega)]
theorem shiftDn_at (d : Array α) (m : Nat) : ∀ n, n ≤ m → m < d.size → (shiftDn d m n)[m - n]! = d[m]!
  | 0, _, _ => rfl
  | n + 1, h, h1 => by rw [shiftDn, show m - (n + 1) = m - n - 1 by omega, swp_right _ _ _ (by rw [shiftDn_size]; omega), shiftDn_at d m n (by omega) h1]
theorem shiftDn_mid (d : Array α) (m : Nat) : ∀ (n i : Nat), n ≤ m → m < d.size → m - n < i → i ≤ m → (shiftDn d m n)[i]! = d[i - 1]!
  | 0, _, _, _, _, _ => by omega
  | n + 1, i, h, h0, h1, h2 => by
    rw [shiftDn]
    by_cases e : i = m - n
    · subst e
      rw [swp_left _ _ _ (by rw [shiftDn_size]; omega) (by omega), shiftDn_other d m n _ (by omega) (by omega)]
    · rw [swp_other _ _ _ _ e (by omega), shiftDn_mid d m n i (by omega) h0 (by omega) h2]
theorem shiftDn_perm (d : Array α) (m lo hi : Nat) : ∀ n, lo + n ≤ m → m < hi → hi ≤ d.size → PermIn lo hi d (shiftDn d m n)
  | 0, _, _, _ => permIn_refl _ _ _
  | n + 1, h1, h2, h3 => permIn_trans _ _ _ _ _ (shiftDn_perm d m lo hi n (by omega) h2 h3) (swp_permIn _ _ _ _ _ (by omega) (by omega) (by omega) (by omega) (by rw [shiftDn_size]; exact h3))
/-- The first one alone. -/
theorem sym_one (h : TO lt) {a b i : Nat} {d : Array α} (hb : b ≤ d.size) (hi : a + 1 ≤ i) (hib : i ≤ b) (hs : SortedIn lt (a + 1) b d) (h1 : ∀ k, a + 1 ≤ k → k < i → lt d[k]! d[a]! = true) (h2 : ∀ k, i ≤ k → k < b → lt d[k]! d[a]! = false) :
    PermIn a b d (shiftUp d a (i - 1 - a)) ∧ SortedIn lt a b (shiftUp d a (i - 1 - a)) := by
  refine ⟨shiftUp_perm d a a b _ (Nat.le_refl _) (by omega) hb, ?_⟩
  have hat := shiftUp_at d a (i - 1 - a) (by omega)
  rw [show a + (i - 1 - a) = i - 1 by omega] at hat
  have hmid := fun k => shiftUp_mid d a (i - 1 - a) k (by omega)
  have hout := fun k => shiftUp_other d a (i - 1 - a) k
  intro p q hp hpq hq
  by_cases p1 : p < i - 1
  · rw [hmid p hp (by omega)]
    by_cases q1 : q < i - 1
    · rw [hmid q (by omega) (by omega)]; exact hs _ _ (by omega) (by omega) (by omega)
    · by_cases q2 : q = i - 1
      · rw [q2, hat]; exact h.asym (h1 _ (by omega) (by omega))
      · rw [hout q (by omega)]; exact hs _ _ (by omega) (by omega) (by omega)
  · by_cases p2 : p = i - 1
    · rw [p2, hat, hout q (by omega)]; exact h2 _ (by omega) hq
    · rw [hout p (by omega), hout q (by omega)]; exact hs _ _ (by omega) (by omega) (by omega)
/-- The last one alone. -/
theorem sym_last (h : TO lt) {a m i : Nat} {d : Array α} (hb : m < d.size) (hi : a ≤ i) (him : i ≤ m) (hs : SortedIn lt a m d) (h1 : ∀ k, a ≤ k → k < i → lt d[m]! d[k]! = false) (h2 : ∀ k, i ≤ k → k < m → lt d[m]! d[k]! = true) :
    PermIn a (m + 1) d (shiftDn d m (m - i)) ∧ SortedIn lt a (m + 1) (shiftDn d m (m - i)) := by
  refine ⟨shiftDn_perm d m a (m + 1) _ (by omega) (by omega) hb, ?_⟩
  have hat := shiftDn_at d m (m - i) (by omega) hb
  rw [show m - (m - i) = i by omega] at hat
  have hmid := fun k => shiftDn_mid d m (m - i) k (by omega) hb
  have hout := fun k => shiftDn_other d m (m - i) k (by omega)
  intro p q hp hpq hq
  by_cases p1 : p < i
  · rw [hout p (by omega)]
    by_cases q1 : q < i
    · rw [hout q (by omega)]; exact hs _ _ hp hpq (by omega)
    · by_cases q2 : q = i
      · rw [q2, hat]; exact h1 _ hp p1
      · rw [hmid q (by omega) (by omega)]; exact hs _ _ hp (by omega) (by omega)
  · by_cases p2 : p = i
    · rw [p2, hat, hmid q (by omega) (by omega)]; exact h.asym (h2 _ (by omega) (by omega))
    · rw [hmid p (by omega) (by omega), hmid q (by omega) (by omega)]; exact hs _ _ (by omega) (by omega) (by omega)
end
end Go.Proofs.YtkffjbijamfnoaaGreat
