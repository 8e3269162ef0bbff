/-
  The logic's assertions: blocks that are known (L), what is read besides (R), whatever the known blocks hold.
-/
import Derived.Test.YtkffjbijamfnoaaGreatHlCore
set_option linter.unusedVariables false
set_option linter.unusedSimpArgs false
namespace Go.Proofs.YtkffjbijamfnoaaGreat
open Go.RowKit

/-- All blocks of W's but those that may turn (m) are as they were. -/
def Agree (m : Nat → Prop) (W W' : World) : Prop := W.heap.size ≤ W'.heap.size ∧ ∀ k, k < W.heap.size → ¬ m k → W'.heap[k]? = W.heap[k]?
/-- P holds, whatever the blocks of m hold. -/
def Ro (m : Nat → Prop) (W : World) (P : World → Prop) : Prop := ∀ W', Agree m W W' → P W'
theorem Agree.refl (m : Nat → Prop) (W : World) : Agree m W W := ⟨Nat.le_refl _, fun _ _ _ => rfl⟩
theorem Agree.trans {m : Nat → Prop} {a b c : World} (h : Agree m a b) (k : Agree m b c) : Agree m a c :=
  ⟨Nat.le_trans h.1 k.1, fun i hi hm => (k.2 i (Nat.lt_of_lt_of_le hi h.1) hm).trans (h.2 i hi hm)⟩
theorem Agree.of_below {m : Nat → Prop} {W W' : World} (h : Below W.heap.size W W') : Agree m W W' := ⟨h.size, fun k hk _ => h.block k hk⟩
theorem Agree.mono {m m' : Nat → Prop} {W W' : World} (h : Agree m W W') (hm : ∀ k, k < W.heap.size → m k → m' k) : Agree m' W W' :=
  ⟨h.1, fun k hk hn => h.2 k hk (fun h' => hn (hm k hk h'))⟩
theorem Agree.alloc (m : Nat → Prop) (W : World) (o : Obj) : Agree m W (W.alloc o) := ⟨by simp, fun k hk _ => Below.heap_alloc W o k hk⟩
theorem Agree.drewN (m : Nat → Prop) (W : World) (n : Nat) : Agree m W (W.drewN n) := ⟨Nat.le_refl _, fun _ _ _ => rfl⟩
theorem Agree.setCell {m : Nat → Prop} {W : World} (p : Addr) (hp : m p.block) (u : Value) : Agree m W (W.setCell p u) :=
  ⟨by simp [World.setCell], fun k hk hn => Below.heap_setCell W p u k (fun e => hn (e ▸ hp))⟩
theorem Agree.grown {m : Nat → Prop} {W W' : World} {row : Option Nat} (h : W.grownBy W' row) (hm : ∀ k, row = some k → m k) : Agree m W W' :=
  ⟨h.size, fun k hk hn => h.block k hk (fun e => hn (hm k e.symm))⟩
theorem Ro.now {m : Nat → Prop} {W : World} {P : World → Prop} (h : Ro m W P) : P W := h W (Agree.refl _ _)
theorem Ro.step {m : Nat → Prop} {W W' : World} {P : World → Prop} (h : Ro m W P) (ha : Agree m W W') : Ro m W' P := fun W'' h' => h W'' (ha.trans h')
theorem Ro.mono {m m' : Nat → Prop} {W : World} {P : World → Prop} (h : Ro m W P) (hm : ∀ k, k < W.heap.size → m' k → m k) : Ro m' W P := fun W' ha => h W' (ha.mono hm)
theorem Ro.imp {m : Nat → Prop} {W : World} {P Q : World → Prop} (h : Ro m W P) (hq : ∀ w, P w → Q w) : Ro m W Q := fun W' ha => hq _ (h W' ha)
theorem Ro.and {m : Nat → Prop} {W : World} {P Q : World → Prop} (h : Ro m W P) (k : Ro m W Q) : Ro m W (fun w => P w ∧ Q w) := fun W' ha => ⟨h W' ha, k W' ha⟩
theorem Ro.const {m : Nat → Prop} {W : World} {p : Prop} (h : p) : Ro m W (fun _ => p) := fun _ _ => h

/-- A block that is known: a variable (its cells), a row of one's own. -/
inductive Blk where
  | box (b : Nat) (cs : List Value) (t : TypeId)
  | row (v : Value) (e : TypeId) (sz n : Nat) (xs : List Value)
  | obj (b : Nat) (o : Obj)
def Blk.block : Blk → Option Nat
  | .box b _ _ => some b
  | .row v _ _ _ _ => v.ownBlock
  | .obj b _ => some b
def Blk.holds (w : World) : Blk → Prop
  | .box b cs t => w.heap[b]? = some (.cells cs.toArray t (0, 0))
  | .row v e sz n xs => w.ownsRow 0 e sz v n xs
  | .obj b o => w.heap[b]? = some o
def Blk.apart (x y : Blk) : Prop := ∀ k, x.block = some k → y.block ≠ some k
theorem Blk.lt {w : World} {x : Blk} (h : x.holds w) : ∀ k, x.block = some k → k < w.heap.size := by
  cases x with
  | box b cs t => rintro k rfl'; cases rfl'; exact (Array.getElem?_eq_some_iff.1 h).1
  | row v e sz n xs => exact fun k hk => (World.ownsRow.lt h k hk).2
  | obj b o => rintro k rfl'; cases rfl'; exact (Array.getElem?_eq_some_iff.1 h).1
theorem Blk.keep {w w' : World} {x : Blk} (h : x.holds w) (hb : ∀ k, x.block = some k → w'.heap[k]? = w.heap[k]?) : x.holds w' := by
  cases x with
  | box b cs t => exact (hb b rfl).trans h
  | obj b o => exact (hb b rfl).trans h
  | row v e sz n xs =>
    obtain ⟨h1, h2⟩ := (show w.ownsRow 0 e sz v n xs from h)
    refine (show w'.ownsRow 0 e sz v n xs from ⟨h1, ?_⟩)
    rcases h2 with h2 | ⟨g, cap, cur, rfl, hg, hh, r⟩
    · exact .inl h2
    · exact .inr ⟨g, cap, cur, rfl, hg, (hb g rfl).trans hh, r⟩

/-- The state: w0 the world at the function's begin; m0: elder blocks that it may write; m: blocks of which nothing in R may hang. -/
structure St (w0 : World) (m0 m : Nat → Prop) (L : List Blk) (R : World → Prop) (w : World) : Prop where
  os : w.os = w0.os
  tape : w.tape = w0.tape
  output : w.output = w0.output
  size : w0.heap.size ≤ w.heap.size
  old : ∀ k, k < w0.heap.size → ¬ m0 k → w.heap[k]? = w0.heap[k]?
  live : ∀ x ∈ L, x.holds w
  sep : L.Pairwise Blk.apart
  new : ∀ x ∈ L, ∀ k, x.block = some k → w0.heap.size ≤ k ∨ m0 k
  ro : Ro (fun k => (m k ∧ k < w0.heap.size) ∨ ∃ x ∈ L, x.block = some k) w R

section
variable {w0 w w' : World} {m0 m : Nat → Prop} {L : List Blk} {R R' : World → Prop}
theorem St.start (h : Ro m w R) : St w m0 m [] R w :=
  ⟨rfl, rfl, rfl, Nat.le_refl _, fun _ _ _ => rfl, by simp, .nil, by simp, h.mono (fun k _ hk => by rcases hk with hk | ⟨x, hx, _⟩; exact hk.1; cases hx)⟩
theorem St.below (h : St w0 (fun _ => False) m L R w) : Below w0.heap.size w0 w := ⟨h.os, h.tape, h.output, h.size, fun k hk => h.old k hk (fun e => e)⟩
theorem St.now (h : St w0 m0 m L R w) : R w := h.ro.now
theorem St.imp (h : St w0 m0 m L R w) (hr : ∀ w, R w → R' w) : St w0 m0 m L R' w := { h with ro := h.ro.imp hr }
/-- A step that turns blocks of L alone, or lays new ones. -/
theorem St.move {L' : List Blk} (h : St w0 m0 m L R w) (hos : w'.os = w.os) (ht : w'.tape = w.tape) (hout : w'.output = w.output)
    (ha : Agree (fun k => ∃ x ∈ L, x.block = some k) w w') (hl : ∀ x ∈ L', x.holds w') (hs : L'.Pairwise Blk.apart)
    (hn : ∀ x ∈ L', ∀ k, x.block = some k → (∃ y ∈ L, y.block = some k) ∨ w.heap.size ≤ k) : St w0 m0 m L' R w' where
  os := hos.trans h.os
  tape := ht.trans h.tape
  output := hout.trans h.output
  size := Nat.le_trans h.size ha.1
  old := fun k hk hm => (ha.2 k (Nat.lt_of_lt_of_le hk h.size) (by rintro ⟨x, hx, e⟩; rcases h.new x hx k e with h1 | h1; omega; exact hm h1)).trans (h.old k hk hm)
  live := hl
  sep := hs
  new := fun x hx k hk => by
    rcases hn x hx k hk with ⟨y, hy, e⟩ | h1
    · exact h.new y hy k e
    · exact .inl (Nat.le_trans h.size h1)
  ro := fun W'' hW => h.ro W'' ⟨Nat.le_trans ha.1 hW.1, fun k hk hm => by
    refine (hW.2 k (Nat.lt_of_lt_of_le hk ha.1) ?_).trans (ha.2 k hk (fun e => hm (.inr e)))
    rintro (h1 | ⟨x, hx, e⟩)
    · exact hm (.inl h1)
    · rcases hn x hx k e with h1 | h1
      · exact hm (.inr h1)
      · omega⟩
theorem St.drewN (h : St w0 m0 m L R w) (k : Nat) : St w0 m0 m L R (w.drewN k) :=
  { os := h.os, tape := h.tape, output := h.output, size := h.size, old := h.old, live := fun x hx => Blk.keep (h.live x hx) (fun _ _ => rfl), sep := h.sep, new := h.new, ro := h.ro.step (Agree.drewN _ _ _) }
theorem St.drew (h : St w0 m0 m L R w) : St w0 m0 m L R { w with drawn := w.drawn + 1 } := h.drewN 1
theorem St.alloc (h : St w0 m0 m L R w) (cs : List Value) (t : TypeId) : St w0 m0 m (L ++ [.box w.heap.size cs t]) R (w.alloc (.cells cs.toArray t)) := by
  refine h.move rfl rfl rfl (Agree.alloc _ _ _) (fun x hx => ?_) ?_ (fun x hx k hk => ?_)
  · rcases List.mem_append.1 hx with hx | hx
    · exact Blk.keep (h.live x hx) (fun k hk => Below.heap_alloc w _ k (Blk.lt (h.live x hx) k hk))
    · obtain rfl := List.mem_singleton.1 hx
      exact heap_alloc_new w _
  · refine List.pairwise_append.2 ⟨h.sep, List.pairwise_singleton _ _, fun x hx y hy k hk e => ?_⟩
    obtain rfl := List.mem_singleton.1 hy
    have := Blk.lt (h.live x hx) k hk
    injection e with e
    omega
  · rcases List.mem_append.1 hx with hx | hx
    · exact .inl ⟨x, hx, hk⟩
    · obtain rfl := List.mem_singleton.1 hx
      injection hk with hk
      exact .inr (Nat.le_of_eq hk)
theorem St.get (h : St w0 m0 m L R w) {i : Nat} {x : Blk} (hi : L[i]? = some x) : x.holds w := h.live x (List.mem_of_getElem? hi)
/-- The i-th block turns. -/
theorem St.turn (h : St w0 m0 m L R w) {i : Nat} {x y : Blk} (hi : L[i]? = some x) (hos : w'.os = w.os) (ht : w'.tape = w.tape) (hout : w'.output = w.output) (hsz : w.heap.size ≤ w'.heap.size)
    (hb : ∀ k, k < w.heap.size → x.block ≠ some k → w'.heap[k]? = w.heap[k]?) (hy : y.holds w') (hyb : y.block = x.block ∨ ∃ b, y.block = some b ∧ w.heap.size ≤ b) : St w0 m0 m (L.set i y) R w' := by
  have hlt : i < L.length := (List.getElem?_eq_some_iff.1 hi).1
  have hxe : L[i] = x := (List.getElem?_eq_some_iff.1 hi).2
  have hsep : ∀ j (hj : j < L.length), j ≠ i → ∀ k, L[j].block = some k → x.block ≠ some k := by
    intro j hj hne k hk e
    rcases Nat.lt_or_gt_of_ne hne with h1 | h1
    · exact (List.pairwise_iff_getElem.1 h.sep j i hj hlt h1) k hk (hxe ▸ e)
    · exact (List.pairwise_iff_getElem.1 h.sep i j hlt hj h1) k (hxe ▸ e) hk
  have hxm : x ∈ L := List.mem_of_getElem? hi
  refine h.move hos ht hout ⟨hsz, fun k hk hn => hb k hk (fun e => hn ⟨x, hxm, e⟩)⟩ (fun z hz => ?_) ?_ (fun z hz k hk => ?_)
  · obtain ⟨j, hj, rfl⟩ := List.getElem_of_mem hz
    rw [List.length_set] at hj
    by_cases e : j = i
    · subst e
      rw [List.getElem_set_self]
      exact hy
    · rw [List.getElem_set_ne (Ne.symm e)]
      exact Blk.keep (h.live _ (List.getElem_mem hj)) (fun k hk => hb k (Blk.lt (h.live _ (List.getElem_mem hj)) k hk) (hsep j hj e k hk))
  · refine List.pairwise_iff_getElem.2 (fun a b ha hb' hab k hk e => ?_)
    rw [List.length_set] at ha hb'
    have side : ∀ j (hj : j < L.length), j ≠ i → ∀ k, L[j].block = some k → y.block ≠ some k := by
      intro j hj hne k hk e
      rcases hyb with h1 | ⟨b, h1, h2⟩
      · exact hsep j hj hne k hk (h1 ▸ e)
      · rw [h1] at e
        injection e with e
        have := Blk.lt (h.live _ (List.getElem_mem hj)) k hk
        omega
    by_cases ea : a = i
    · subst ea
      rw [List.getElem_set_self] at hk
      rw [List.getElem_set_ne (by omega)] at e
      exact side b (by simpa using hb') (by omega) k e hk
    · by_cases eb : b = i
      · subst eb
        rw [List.getElem_set_self] at e
        rw [List.getElem_set_ne (by omega)] at hk
        exact side a (by simpa using ha) ea k hk e
      · rw [List.getElem_set_ne (Ne.symm ea)] at hk
        rw [List.getElem_set_ne (Ne.symm eb)] at e
        exact (List.pairwise_iff_getElem.1 h.sep a b ha hb' hab) k hk e
  · obtain ⟨j, hj, rfl⟩ := List.getElem_of_mem hz
    rw [List.length_set] at hj
    by_cases e : j = i
    · subst e
      rw [List.getElem_set_self] at hk
      rcases hyb with h1 | ⟨b, h1, h2⟩
      · exact .inl ⟨x, hxm, h1 ▸ hk⟩
      · rw [h1] at hk
        injection hk with hk
        exact .inr (hk ▸ h2)
    · rw [List.getElem_set_ne (Ne.symm e)] at hk
      exact .inl ⟨_, List.getElem_mem hj, hk⟩
/-- What a callee has left that turned nothing elder: R' is told of it. -/
theorem St.call (h : St w0 m0 m L R w) (hb : Below w.heap.size w w') (hr : Ro (fun k => ((m k ∧ k < w0.heap.size) ∨ ∃ x ∈ L, x.block = some k) ∧ k < w.heap.size) w' R') : St w0 m0 m L (fun w => R w ∧ R' w) w' := by
  have h1 : St w0 m0 m L R w' := h.move hb.os hb.tape hb.output (Agree.of_below hb) (fun x hx => Blk.keep (h.live x hx) (fun k hk => hb.block k (Blk.lt (h.live x hx) k hk))) h.sep (fun x hx k hk => .inl ⟨x, hx, hk⟩)
  exact { h1 with ro := h1.ro.and (hr.mono (fun k hk hm => ⟨hm, by
    rcases hm with hm | ⟨x, hx, e⟩
    · exact Nat.lt_of_lt_of_le hm.2 h.size
    · exact Blk.lt (h.live x hx) k e⟩)) }
/-- A block is known no more, but what it says is read. -/
theorem St.freeze' (h : St w0 m0 m L R w) (i : Nat) {x : Blk} (hi : L[i]? = some x) (hw : ∀ k, x.block = some k → w0.heap.size ≤ k) : St w0 m0 m (L.eraseIdx i) (fun w => R w ∧ x.holds w) w := by
  have hlt : i < L.length := (List.getElem?_eq_some_iff.1 hi).1
  have hxe : L[i] = x := (List.getElem?_eq_some_iff.1 hi).2
  have hxm : x ∈ L := List.mem_of_getElem? hi
  have hsub : ∀ y ∈ L.eraseIdx i, y ∈ L := fun y hy => List.mem_of_mem_eraseIdx hy
  refine { os := h.os, tape := h.tape, output := h.output, size := h.size, old := h.old, live := fun y hy => h.live y (hsub y hy), sep := h.sep.sublist (List.eraseIdx_sublist ..), new := fun y hy => h.new y (hsub y hy), ro := ?_ }
  refine (h.ro.mono (fun k _ hk => ?_)).and (fun W' hW => Blk.keep (h.live x hxm) (fun k hk => hW.2 k (Blk.lt (h.live x hxm) k hk) ?_))
  · rcases hk with hk | ⟨y, hy, e⟩
    · exact .inl hk
    · exact .inr ⟨y, hsub y hy, e⟩
  · rintro (h1 | ⟨y, hy, e⟩)
    · have := hw k hk
      omega
    · obtain ⟨j, hj, hj2⟩ := List.getElem_of_mem hy
      rw [List.getElem_eraseIdx] at hj2
      rw [List.length_eraseIdx_of_lt hlt] at hj
      split at hj2
      · rename_i hji
        exact (List.pairwise_iff_getElem.1 h.sep j i (by omega) hlt hji) k (hj2 ▸ e) (hxe ▸ hk)
      · rename_i hji
        exact (List.pairwise_iff_getElem.1 h.sep i (j + 1) hlt (by omega) (by omega)) k (hxe ▸ hk) (hj2 ▸ e)
theorem St.freeze (h : St w0 (fun _ => False) m L R w) (i : Nat) {x : Blk} (hi : L[i]? = some x) : St w0 (fun _ => False) m (L.eraseIdx i) (fun w => R w ∧ x.holds w) w :=
  h.freeze' i hi (fun k hk => (h.new x (List.mem_of_getElem? hi) k hk).resolve_right id)
/-- A block is known no more. -/
theorem St.drop (h : St w0 m0 m L R w) (i : Nat) : St w0 m0 m (L.eraseIdx i) R w := by
  have hsub : ∀ y ∈ L.eraseIdx i, y ∈ L := fun y hy => List.mem_of_mem_eraseIdx hy
  refine { os := h.os, tape := h.tape, output := h.output, size := h.size, old := h.old, live := fun y hy => h.live y (hsub y hy), sep := h.sep.sublist (List.eraseIdx_sublist ..), new := fun y hy => h.new y (hsub y hy), ro := h.ro.mono (fun k _ hk => ?_) }
  rcases hk with hk | ⟨y, hy, e⟩
  · exact .inl hk
  · exact .inr ⟨y, hsub y hy, e⟩
theorem St.take (h : St w0 m0 m L R w) (k : Nat) : St w0 m0 m (L.take k) R w := by
  have hsub : ∀ y ∈ L.take k, y ∈ L := fun y hy => List.mem_of_mem_take hy
  refine { os := h.os, tape := h.tape, output := h.output, size := h.size, old := h.old, live := fun y hy => h.live y (hsub y hy), sep := h.sep.sublist (List.take_sublist ..), new := fun y hy => h.new y (hsub y hy), ro := h.ro.mono (fun k _ hk => ?_) }
  rcases hk with hk | ⟨y, hy, e⟩
  · exact .inl hk
  · exact .inr ⟨y, hsub y hy, e⟩
theorem St.fact {p : Prop} (h : St w0 m0 m L R w) (hp : p) : St w0 m0 m L (fun w => R w ∧ p) w := { h with ro := h.ro.and (Ro.const hp) }
theorem St.ro0 (h : St w0 m0 m [] R w) : Ro (fun k => m k ∧ k < w0.heap.size) w R := h.ro.mono (fun k _ hk => .inl hk)
/-- A callee's state behind its end, taken into the caller's. -/
theorem St.join {L' : List Blk} (h : St w0 m0 m L R w) (k : St w (fun _ => False) (fun k => (m k ∧ k < w0.heap.size) ∨ ∃ x ∈ L, x.block = some k) L' R' w') : St w0 m0 m (L ++ L') (fun w => R w ∧ R' w) w' := by
  have hb : Below w.heap.size w w' := k.below
  have h1 : St w0 m0 m (L ++ L') R w' := h.move hb.os hb.tape hb.output (Agree.of_below hb) (fun x hx => by
      rcases List.mem_append.1 hx with hx | hx
      · exact Blk.keep (h.live x hx) (fun k hk => hb.block k (Blk.lt (h.live x hx) k hk))
      · exact k.live x hx)
    (List.pairwise_append.2 ⟨h.sep, k.sep, fun x hx y hy q hq e => by
      have h2 := Blk.lt (h.live x hx) q hq
      have h3 := (k.new y hy q e).resolve_right id
      omega⟩)
    (fun x hx q hq => by
      rcases List.mem_append.1 hx with hx | hx
      · exact .inl ⟨x, hx, hq⟩
      · exact .inr ((k.new x hx q hq).resolve_right id))
  refine { h1 with ro := h1.ro.and (k.ro.mono (fun q hq hm => ?_)) }
  rcases hm with hm | ⟨x, hx, e⟩
  · exact .inl ⟨.inl hm, Nat.lt_of_lt_of_le hm.2 h.size⟩
  · rcases List.mem_append.1 hx with hx | hx
    · exact .inl ⟨.inr ⟨x, hx, e⟩, Blk.lt (h.live x hx) q e⟩
    · exact .inr ⟨x, hx, e⟩
/-- A nil row. -/
theorem St.nil (h : St w0 m0 m L R w) (e : TypeId) (sz : Nat) : St w0 m0 m (L ++ [.row (.slice Option.none 0 0) e sz 0 []]) R w := by
  have hnb : (Blk.row (.slice Option.none 0 0) e sz 0 []).block = Option.none := rfl
  refine h.move rfl rfl rfl (Agree.refl _ _) (fun x hx => ?_) (List.pairwise_append.2 ⟨h.sep, List.pairwise_singleton _ _, fun x hx y hy q hq e => ?_⟩) (fun x hx q hq => ?_)
  · rcases List.mem_append.1 hx with hx | hx
    · exact h.live x hx
    · obtain rfl := List.mem_singleton.1 hx
      exact World.ownsRow_nil _ _ _ _
  · obtain rfl := List.mem_singleton.1 hy
    rw [hnb] at e
    cases e
  · rcases List.mem_append.1 hx with hx | hx
    · exact .inl ⟨x, hx, hq⟩
    · obtain rfl := List.mem_singleton.1 hx
      rw [hnb] at hq
      cases hq
end
end Go.Proofs.YtkffjbijamfnoaaGreat
