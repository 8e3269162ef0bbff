/-
  Panes: one into many; the order in which they come does not matter. No program in this text.
-/
import Derived.Test.YtkffjbijamfnoaaGreatSortP
set_option linter.unusedVariables false
set_option linter.unusedSimpArgs false
namespace Go.Proofs.YtkffjbijamfnoaaGreat
/-! ### aggregates -/
theorem w64_spec (x : Int) : ∃ q, w64 x = x - q * 18446744073709551616 ∧ -9223372036854775808 ≤ w64 x ∧ w64 x < 9223372036854775808 := by
  have h : w64 x = if x % 18446744073709551616 ≥ 9223372036854775808 then x % 18446744073709551616 - 18446744073709551616 else x % 18446744073709551616 := by
    simp [w64, IntKind.wrap, IntKind.signed, IntKind.bits]
  rw [h]
  split
  · exact ⟨x / 18446744073709551616 + 1, by omega, by omega, by omega⟩
  · exact ⟨x / 18446744073709551616, by omega, by omega, by omega⟩
theorem w64_add_l (a b : Int) : w64 (w64 a + b) = w64 (a + b) := by
  obtain ⟨q1, h1, _, _⟩ := w64_spec a
  obtain ⟨q2, h2, h3, h4⟩ := w64_spec (w64 a + b)
  obtain ⟨q3, h5, h6, h7⟩ := w64_spec (a + b)
  generalize w64 (w64 a + b) = x at *
  generalize w64 (a + b) = y at *
  omega
theorem w64_add_r (a b : Int) : w64 (a + w64 b) = w64 (a + b) := by rw [Int.add_comm, w64_add_l, Int.add_comm]
theorem ofInt_wrap (x : BitVec 64) : BitVec.ofInt 64 (IntKind.i64.wrap (x.toNat : Int)) = x := by
  apply BitVec.eq_of_toNat_eq
  rw [BitVec.toNat_ofInt]
  have := x.isLt
  simp [IntKind.wrap, IntKind.signed, IntKind.bits]
  split <;> omega
theorem bits_xor (a b : Int) : bits .xor .i64 a b = IntKind.i64.wrap ((BitVec.ofInt 64 a ^^^ BitVec.ofInt 64 b).toNat : Int) := rfl
theorem xor_comm' (a b : Int) : bits .xor .i64 a b = bits .xor .i64 b a := by rw [bits_xor, bits_xor, BitVec.xor_comm]
theorem xor_assoc' (a b c : Int) : bits .xor .i64 (bits .xor .i64 a b) c = bits .xor .i64 a (bits .xor .i64 b c) := by
  simp only [bits_xor, ofInt_wrap, BitVec.xor_assoc]
theorem aggMerge_comm (agg a b : Int) : aggMerge agg a b = aggMerge agg b a := by
  unfold aggMerge
  rw [Int.add_comm, Int.min_comm, Int.max_comm, xor_comm']
theorem aggMerge_assoc (agg a b c : Int) : aggMerge agg (aggMerge agg a b) c = aggMerge agg a (aggMerge agg b c) := by
  unfold aggMerge
  by_cases h1 : agg = 1 ∨ agg = 2
  · simp only [if_pos h1, w64_add_l, w64_add_r, Int.add_assoc]
  simp only [if_neg h1]
  by_cases h3 : agg = 3
  · simp only [if_pos h3]; omega
  simp only [if_neg h3]
  by_cases h4 : agg = 4
  · simp only [if_pos h4]; omega
  simp only [if_neg h4]
  by_cases h5 : agg = 5
  · simp only [if_pos h5, xor_assoc']
  · simp only [if_neg h5]
theorem aggAdd_merge (agg a v : Int) : aggAdd agg a v = aggMerge agg a (if agg = 2 then 1 else v) := by
  unfold aggAdd
  split
  · rename_i h; subst h; rfl
  · rfl
/-- A value on its own, and what is there: no matter in which order. -/
theorem aggAdd_one (agg a v : Int) (h : aggMerge agg a (aggZero agg) = a) : aggMerge agg (aggAdd agg (aggZero agg) v) a = aggAdd agg a v := by
  rw [aggAdd_merge, aggAdd_merge, aggMerge_comm, ← aggMerge_assoc, h]
theorem aggAdd_kept (agg a v : Int) (h : aggMerge agg a (aggZero agg) = a) : aggMerge agg (aggAdd agg a v) (aggZero agg) = aggAdd agg a v := by
  rw [aggAdd_merge, aggMerge_assoc, aggMerge_comm agg _ (aggZero agg), ← aggMerge_assoc, h]
theorem aggMerge_kept (agg a b : Int) (h : aggMerge agg b (aggZero agg) = b) : aggMerge agg (aggMerge agg a b) (aggZero agg) = aggMerge agg a b := by
  rw [aggMerge_assoc, h]
theorem bits_xor_zero (a : Int) : bits .xor .i64 (bits .xor .i64 a 0) 0 = bits .xor .i64 a 0 := by
  rw [xor_assoc']; rfl
theorem aggZero_kept (agg v : Int) : aggMerge agg (aggAdd agg (aggZero agg) v) (aggZero agg) = aggAdd agg (aggZero agg) v := by
  rw [aggAdd_merge]
  have h0 : aggMerge agg (aggZero agg) (aggZero agg) = aggZero agg := by
    unfold aggMerge aggZero
    (repeat' split) <;> first | omega | rfl | simp_all
  rw [aggMerge_assoc, aggMerge_comm agg _ (aggZero agg), ← aggMerge_assoc, h0]
/-! ### one pane into panes -/
def joinP (agg : Int) (p x : Pane) : Pane := ⟨p.key, ⟨min p.span.frm x.span.frm, max p.span.to x.span.to⟩, aggMerge agg p.acc x.acc⟩
/-- Are two panes one (sessions: do they overlap)? -/
def meets (ses : Bool) (p x : Pane) : Bool := decide (x.key = p.key) && (if ses then overlap x.span p.span else decide (x.span = p.span))
def joinAll (agg : Int) (p : Pane) (l : List Pane) : Pane := l.foldl (joinP agg) p
def absorb (ses : Bool) (agg : Int) (L : List Pane) (p : Pane) : List Pane := L.filter (fun x => !meets ses p x) ++ [joinAll agg p (L.filter (meets ses p))]
def Apart (ses : Bool) (L : List Pane) : Prop := L.Pairwise (fun x y => meets ses x y = false)
def Pos (p : Pane) : Prop := p.span.frm < p.span.to
theorem joinP_key (agg : Int) (p x : Pane) : (joinP agg p x).key = p.key := rfl
theorem joinAll_key (agg : Int) : ∀ (l : List Pane) (p : Pane), (joinAll agg p l).key = p.key
  | [], _ => rfl
  | x :: l, p => joinAll_key agg l (joinP agg p x)
theorem joinAll_pos (agg : Int) : ∀ (l : List Pane) (p : Pane), Pos p → Pos (joinAll agg p l)
  | [], _, h => h
  | x :: l, p, h => joinAll_pos agg l (joinP agg p x) (by unfold Pos joinP at *; dsimp only; omega)
theorem joinAll_kept (agg : Int) : ∀ (l : List Pane) (p : Pane), aggMerge agg p.acc (aggZero agg) = p.acc → (∀ x ∈ l, aggMerge agg x.acc (aggZero agg) = x.acc) → aggMerge agg (joinAll agg p l).acc (aggZero agg) = (joinAll agg p l).acc
  | [], _, h, _ => h
  | x :: l, p, h, hl => joinAll_kept agg l (joinP agg p x) (aggMerge_kept _ _ _ (hl x (List.mem_cons_self ..))) (fun y hy => hl y (List.mem_cons_of_mem _ hy))
theorem joinP_right (agg : Int) (z x y : Pane) : joinP agg (joinP agg z x) y = joinP agg (joinP agg z y) x := by
  unfold joinP
  simp only [Pane.mk.injEq, Span.mk.injEq, true_and]
  refine ⟨⟨by omega, by omega⟩, ?_⟩
  rw [aggMerge_assoc, aggMerge_comm agg x.acc, ← aggMerge_assoc]
theorem joinP_assoc (agg : Int) (z x y : Pane) : joinP agg z (joinP agg x y) = joinP agg (joinP agg z x) y := by
  unfold joinP
  simp only [Pane.mk.injEq, Span.mk.injEq, true_and]
  exact ⟨⟨by omega, by omega⟩, (aggMerge_assoc ..).symm⟩
theorem joinP_comm (agg : Int) (x y : Pane) (h : x.key = y.key) : joinP agg x y = joinP agg y x := by
  unfold joinP
  simp only [Pane.mk.injEq, Span.mk.injEq]
  exact ⟨h, ⟨by omega, by omega⟩, aggMerge_comm ..⟩
theorem joinAll_perm (agg : Int) {l l' : List Pane} (hp : l.Perm l') (p : Pane) : joinAll agg p l = joinAll agg p l' := hp.foldl_eq' (fun x _ y _ z => joinP_right agg z x y) p
theorem joinAll_join (agg : Int) : ∀ (l : List Pane) (z p : Pane), joinP agg z (joinAll agg p l) = joinAll agg (joinP agg z p) l
  | [], _, _ => rfl
  | x :: l, z, p => by
    show joinP agg z (joinAll agg (joinP agg p x) l) = joinAll agg (joinP agg (joinP agg z p) x) l
    rw [joinAll_join agg l, joinP_assoc]
theorem joinAll_append (agg : Int) (p : Pane) (l l' : List Pane) : joinAll agg p (l ++ l') = joinAll agg (joinAll agg p l) l' := List.foldl_append
theorem meets_key {ses : Bool} {p x : Pane} (h : meets ses p x = true) : x.key = p.key := by
  unfold meets at h; simp only [Bool.and_eq_true, decide_eq_true_eq] at h; exact h.1
theorem meets_comm (ses : Bool) (p x : Pane) : meets ses p x = meets ses x p := by
  unfold meets overlap
  cases ses
  · simp only [Bool.false_eq_true, if_false]
    rw [show decide (x.key = p.key) = decide (p.key = x.key) from decide_eq_decide.2 eq_comm, show decide (x.span = p.span) = decide (p.span = x.span) from decide_eq_decide.2 eq_comm]
  · simp only [if_true]
    rw [show decide (x.key = p.key) = decide (p.key = x.key) from decide_eq_decide.2 eq_comm, Bool.and_comm (decide (x.span.frm < p.span.to))]
theorem meets_true {p x : Pane} : meets true p x = true ↔ x.key = p.key ∧ x.span.frm < p.span.to ∧ p.span.frm < x.span.to := by
  unfold meets overlap; simp
theorem meets_false {p x : Pane} : meets false p x = true ↔ x.key = p.key ∧ x.span = p.span := by
  unfold meets; simp
/-- Whom the joint pane meets. -/
theorem meets_joinAll (ses : Bool) (agg : Int) (q : Pane) (hq : Pos q) : ∀ (A : List Pane) (p : Pane), Pos p → (∀ a ∈ A, Pos a) → (∀ a ∈ A, meets ses p a = true) → (meets ses q (joinAll agg p A) = true ↔ meets ses q p = true ∨ ∃ a ∈ A, meets ses q a = true)
  | [], p, _, _, _ => by simp [joinAll]
  | a :: A, p, hp, hA, hm => by
    have ha := hm a (List.mem_cons_self ..)
    have hpa := hA a (List.mem_cons_self ..)
    have hk := meets_key ha
    have hpos : Pos (joinP agg p a) := by unfold Pos joinP at *; dsimp only; omega
    have ih := meets_joinAll ses agg q hq A (joinP agg p a) hpos (fun x hx => hA x (List.mem_cons_of_mem _ hx)) (fun x hx => by
      have h := hm x (List.mem_cons_of_mem _ hx)
      cases ses with
      | true =>
        rw [meets_true] at h ha ⊢
        unfold joinP; dsimp only
        exact ⟨h.1, by omega, by omega⟩
      | false =>
        rw [meets_false] at h ha ⊢
        refine ⟨h.1, ?_⟩
        unfold joinP; dsimp only
        rw [h.2, ha.2]
        cases p.span with | mk f t => simp)
    show meets ses q (joinAll agg (joinP agg p a) A) = true ↔ _
    rw [ih]
    have key : meets ses q (joinP agg p a) = true ↔ meets ses q p = true ∨ meets ses q a = true := by
      unfold Pos at hp hpa hq
      cases ses with
      | true =>
        rw [meets_true] at ha
        simp only [meets_true]
        unfold joinP; dsimp only
        constructor
        · rintro ⟨h1, h2, h3⟩
          by_cases h4 : p.span.frm < q.span.to ∧ q.span.frm < p.span.to
          · exact .inl ⟨h1, h4.1, h4.2⟩
          · exact .inr ⟨by omega, by omega, by omega⟩
        · rintro (⟨h1, h2, h3⟩ | ⟨h1, h2, h3⟩)
          · exact ⟨h1, by omega, by omega⟩
          · exact ⟨by omega, by omega, by omega⟩
      | false =>
        rw [meets_false] at ha
        simp only [meets_false]
        unfold joinP; dsimp only
        rw [ha.2]
        have e : (⟨min p.span.frm p.span.frm, max p.span.to p.span.to⟩ : Span) = p.span := by cases p.span with | mk f t => simp
        rw [e]
        constructor
        · exact fun h => .inl h
        · rintro (h | h)
          · exact h
          · exact ⟨by omega, h.2⟩
    rw [key]
    simp only [List.mem_cons, exists_eq_or_imp, or_assoc]
section
variable {ses : Bool} {agg : Int} {L : List Pane} {p q : Pane}
theorem Apart.get (hL : Apart ses L) {x y : Pane} (hx : x ∈ L) (hy : y ∈ L) (h : meets ses x y = true) : x = y := by
  obtain ⟨i, hi, rfl⟩ := List.getElem_of_mem hx
  obtain ⟨j, hj, rfl⟩ := List.getElem_of_mem hy
  rcases Nat.lt_trichotomy i j with h1 | h1 | h1
  · have := List.pairwise_iff_getElem.1 hL i j hi hj h1
    rw [this] at h; cases h
  · subst h1; rfl
  · have := List.pairwise_iff_getElem.1 hL j i hj hi h1
    rw [meets_comm] at this
    rw [this] at h; cases h
theorem absorb_pos (hL : ∀ x ∈ L, Pos x) (hp : Pos p) : ∀ x ∈ absorb ses agg L p, Pos x := by
  intro x hx
  unfold absorb at hx
  rcases List.mem_append.1 hx with hx | hx
  · exact hL x (List.mem_filter.1 hx).1
  · rw [List.mem_singleton.1 hx]; exact joinAll_pos _ _ _ hp
theorem meets_new (hL : Apart ses L) (hpos : ∀ x ∈ L, Pos x) (hp : Pos p) {x : Pane} (hx : x ∈ L) (hn : meets ses p x = false) : meets ses x (joinAll agg p (L.filter (meets ses p))) = false := by
  rw [← Bool.not_eq_true, meets_joinAll ses agg x (hpos x hx) _ p hp (fun a ha => hpos a (List.mem_filter.1 ha).1) (fun a ha => (List.mem_filter.1 ha).2)]
  rintro (h | ⟨a, ha, h⟩)
  · rw [meets_comm, hn] at h; cases h
  · obtain ⟨h1, h2⟩ := List.mem_filter.1 ha
    obtain rfl := hL.get hx h1 h
    rw [hn] at h2; cases h2
theorem absorb_apart (hL : Apart ses L) (hpos : ∀ x ∈ L, Pos x) (hp : Pos p) : Apart ses (absorb ses agg L p) := by
  unfold absorb
  refine List.pairwise_append.2 ⟨hL.filter _, List.pairwise_singleton _ _, fun x hx y hy => ?_⟩
  obtain ⟨h1, h2⟩ := List.mem_filter.1 hx
  rw [List.mem_singleton.1 hy]
  exact meets_new hL hpos hp h1 (by simpa using h2)
theorem absorb_perm {L' : List Pane} (h : L.Perm L') (p : Pane) : (absorb ses agg L p).Perm (absorb ses agg L' p) := by
  unfold absorb
  rw [joinAll_perm agg (h.filter _)]
  exact (h.filter _).append_right _
theorem filter_perm_or {f g : Pane → Bool} : ∀ (l : List Pane), (l.filter (fun x => !f x && g x) ++ l.filter f).Perm (l.filter (fun x => f x || g x))
  | [] => .refl _
  | x :: l => by
    have ih := filter_perm_or (f := f) (g := g) l
    cases hf : f x <;> cases hg : g x <;> simp only [List.filter_cons, hf, hg, Bool.not_false, Bool.not_true, Bool.true_and, Bool.and_true, Bool.false_and, Bool.and_false, Bool.or_true, Bool.or_false, Bool.true_or, Bool.false_or, if_true, if_false, Bool.false_eq_true, List.cons_append]
    · exact ih
    · exact ih.cons x
    · exact (List.perm_middle).trans (ih.cons x)
    · exact (List.perm_middle).trans (ih.cons x)
theorem filter_filter' {f g : Pane → Bool} (l : List Pane) : (l.filter f).filter g = l.filter (fun x => f x && g x) := by
  rw [List.filter_filter]
  congr 1; funext x; rw [Bool.and_comm]
/-- Two into panes: no matter which first. -/
theorem absorb_comm (hL : Apart ses L) (hpos : ∀ x ∈ L, Pos x) (hp : Pos p) (hq : Pos q) : (absorb ses agg (absorb ses agg L p) q).Perm (absorb ses agg (absorb ses agg L q) p) := by
  have hA : ∀ p, Pos p → ∀ q, Pos q → (meets ses q (joinAll agg p (L.filter (meets ses p))) = true ↔ meets ses q p = true ∨ ∃ a ∈ L.filter (meets ses p), meets ses q a = true) := fun p hp q hq =>
    meets_joinAll ses agg q hq _ p hp (fun a ha => hpos a (List.mem_filter.1 ha).1) (fun a ha => (List.mem_filter.1 ha).2)
  have hx : ∀ p, Pos p → ∀ q, Pos q → absorb ses agg (absorb ses agg L p) q = (if meets ses q (joinAll agg p (L.filter (meets ses p))) = true
      then L.filter (fun x => !meets ses p x && !meets ses q x) ++ [joinP agg (joinAll agg q (L.filter (fun x => !meets ses p x && meets ses q x))) (joinAll agg p (L.filter (meets ses p)))]
      else L.filter (fun x => !meets ses p x && !meets ses q x) ++ [joinAll agg p (L.filter (meets ses p))] ++ [joinAll agg q (L.filter (fun x => !meets ses p x && meets ses q x))]) := by
    intro p hp q hq
    conv => lhs; unfold absorb
    rw [List.filter_append, List.filter_append]
    rw [filter_filter', filter_filter']
    split
    · rename_i h
      simp only [List.filter_cons, List.filter_nil, h, Bool.not_true, Bool.false_eq_true, if_false, if_true, List.append_nil, joinAll_append]
      rfl
    · rename_i h
      simp only [List.filter_cons, List.filter_nil, h, Bool.not_true, Bool.false_eq_true, if_false, if_true, List.append_nil]
      simp
  have hsym : (meets ses q (joinAll agg p (L.filter (meets ses p))) = true) ↔ (meets ses p (joinAll agg q (L.filter (meets ses q))) = true) := by
    rw [hA p hp q hq, hA q hq p hp, meets_comm ses q p]
    refine or_congr_right ⟨?_, ?_⟩
    · rintro ⟨a, ha, h⟩
      obtain ⟨h1, h2⟩ := List.mem_filter.1 ha
      exact ⟨a, List.mem_filter.2 ⟨h1, h⟩, h2⟩
    · rintro ⟨a, ha, h⟩
      obtain ⟨h1, h2⟩ := List.mem_filter.1 ha
      exact ⟨a, List.mem_filter.2 ⟨h1, h⟩, h2⟩
  have hand : ∀ p q : Pane, L.filter (fun x => !meets ses p x && !meets ses q x) = L.filter (fun x => !meets ses q x && !meets ses p x) := fun p q => by
    congr 1; funext x; rw [Bool.and_comm]
  rw [hx p hp q hq, hx q hq p hp]
  by_cases h : meets ses q (joinAll agg p (L.filter (meets ses p))) = true
  · rw [if_pos h, if_pos (hsym.1 h), hand p q]
    refine List.Perm.append_left _ ?_
    have hk : p.key = q.key := by
      have := meets_key h
      rw [joinAll_key] at this
      exact this
    rw [joinAll_join, joinAll_join]
    have e1 : ∀ p q : Pane, p.key = q.key → joinAll agg (joinP agg (joinAll agg q (L.filter (fun x => !meets ses p x && meets ses q x))) p) (L.filter (meets ses p)) = joinAll agg (joinP agg q p) (L.filter (fun x => meets ses p x || meets ses q x)) := by
      intro p q hk
      rw [← joinAll_perm agg (filter_perm_or L), joinAll_append]
      congr 1
      have := joinAll_perm agg (l := L.filter (fun x => !meets ses p x && meets ses q x) ++ [p]) (l' := p :: L.filter (fun x => !meets ses p x && meets ses q x)) (List.perm_append_comm (l₂ := [p])) q
      rw [joinAll_append] at this
      exact this
    rw [e1 p q hk, e1 q p hk.symm, joinP_comm agg q p hk.symm]
    rw [show L.filter (fun x => meets ses q x || meets ses p x) = L.filter (fun x => meets ses p x || meets ses q x) by congr 1; funext x; rw [Bool.or_comm]]
  · rw [if_neg h, if_neg (fun h' => h (hsym.2 h')), hand p q]
    have hd : ∀ p q : Pane, ¬ (meets ses q p = true ∨ ∃ a ∈ L.filter (meets ses p), meets ses q a = true) → L.filter (fun x => !meets ses p x && meets ses q x) = L.filter (meets ses q) := fun p q hn => by
      refine List.filter_congr fun x hx => ?_
      cases h1 : meets ses q x
      · simp
      · cases h2 : meets ses p x
        · rfl
        · exact absurd (.inr ⟨x, List.mem_filter.2 ⟨hx, h2⟩, h1⟩) hn
    rw [hd p q (fun h' => h ((hA p hp q hq).2 h')), hd q p (fun h' => h (hsym.2 ((hA q hq p hp).2 h')))]
    rw [List.append_assoc, List.append_assoc]
    exact List.Perm.append_left _ (.swap _ _ _)
end
/-- Panes that come one by one. -/
def gather (ses : Bool) (agg : Int) (L : List Pane) (E : List Pane) : List Pane := E.foldl (absorb ses agg) L
structure Good (ses : Bool) (L : List Pane) : Prop where
  apart : Apart ses L
  pos : ∀ x ∈ L, Pos x
theorem Good.nil (ses : Bool) : Good ses [] := ⟨List.Pairwise.nil, by simp⟩
theorem Good.absorb {ses : Bool} {agg : Int} {L : List Pane} {p : Pane} (h : Good ses L) (hp : Pos p) : Good ses (absorb ses agg L p) := ⟨absorb_apart h.apart h.pos hp, absorb_pos h.pos hp⟩
theorem Good.perm {ses : Bool} {L L' : List Pane} (h : Good ses L) (hp : L.Perm L') : Good ses L' :=
  ⟨(hp.pairwise_iff (fun {x y} hxy => by rw [meets_comm]; exact hxy)).1 h.apart, fun x hx => h.pos x (hp.mem_iff.2 hx)⟩
theorem Good.gather {ses : Bool} {agg : Int} : ∀ {E L : List Pane}, Good ses L → (∀ p ∈ E, Pos p) → Good ses (gather ses agg L E)
  | [], L, h, _ => h
  | p :: E, L, h, hE => Good.gather (E := E) (L := Go.Proofs.YtkffjbijamfnoaaGreat.absorb ses agg L p) (h.absorb (hE p (List.mem_cons_self ..))) (fun x hx => hE x (List.mem_cons_of_mem _ hx))
theorem gather_perm_left {ses : Bool} {agg : Int} : ∀ (E : List Pane) {L L' : List Pane}, L.Perm L' → (gather ses agg L E).Perm (gather ses agg L' E)
  | [], _, _, h => h
  | p :: E, _, _, h => gather_perm_left E (absorb_perm h p)
theorem gather_perm {ses : Bool} {agg : Int} {E E' : List Pane} (h : E.Perm E') : ∀ {L : List Pane}, Good ses L → (∀ p ∈ E, Pos p) → (gather ses agg L E).Perm (gather ses agg L E') := by
  induction h with
  | nil => exact fun _ _ => .refl _
  | cons x _ ih => exact fun hL hE => ih (hL.absorb (hE x (List.mem_cons_self ..))) (fun y hy => hE y (List.mem_cons_of_mem _ hy))
  | swap x y l => exact fun {L} hL hE => gather_perm_left l (absorb_comm hL.apart hL.pos (hE y (List.mem_cons_self ..)) (hE x (List.mem_cons_of_mem _ (List.mem_cons_self ..))))
  | trans h1 h2 ih1 ih2 => exact fun hL hE => (ih1 hL hE).trans (ih2 hL (fun y hy => hE y (h1.mem_iff.2 hy)))
/-- What is there, in order. -/
def panesOf (ses : Bool) (agg : Int) (E : List Pane) : List Pane := sortP (gather ses agg [] E)
theorem panesOf_perm {ses : Bool} {agg : Int} {E E' : List Pane} (h : E.Perm E') (hE : ∀ p ∈ E, Pos p) : panesOf ses agg E = panesOf ses agg E' := isort_congr lessP_to (gather_perm h (Good.nil ses) hE)
theorem gather_append (ses : Bool) (agg : Int) (L E E' : List Pane) : gather ses agg L (E ++ E') = gather ses agg (gather ses agg L E) E' := List.foldl_append
theorem panesOf_snoc {ses : Bool} {agg : Int} (E : List Pane) (p : Pane) : sortP (absorb ses agg (panesOf ses agg E) p) = panesOf ses agg (E ++ [p]) := by
  unfold panesOf
  rw [gather_append]
  exact isort_congr lessP_to (absorb_perm (isort_perm _) p)
end Go.Proofs.YtkffjbijamfnoaaGreat
