/-
  Rows of rows that are one's own: blocks that hang on a list.
-/
import Derived.Test.YtkffjbijamfnoaaGreatHlRet
set_option linter.unusedVariables false
set_option linter.unusedSimpArgs false
namespace Go.Proofs.YtkffjbijamfnoaaGreat
open Go.RowKit
def kSl : Kn Sl := Kn.pure eSl 1 (fun _ => rfl) (fun _ => rfl) (by decide)
def getM (M : List (List Int)) (q p : Nat) : Int := (M.getD q []).getD p 0
def setM (M : List (List Int)) (q p : Nat) (v : Int) : List (List Int) := M.set q ((M.getD q []).set p v)
def innB (gs : List (Nat × Nat)) (M : List (List Int)) : List Blk := List.zipWith (fun g xs => rowOf eInt (.slice (some ⟨g.1, 0, none⟩) xs.length g.2) 2 1 xs) gs M
theorem getD_at (M : List (List Int)) (q : Nat) (hq : q < M.length) : M.getD q [] = M[q] := by rw [List.getD_eq_getElem?_getD, List.getElem?_eq_getElem hq]; rfl
theorem getM_at (M : List (List Int)) (q p : Nat) (hq : q < M.length) (hp : p < M[q].length) : getM M q p = M[q][p] := by
  unfold getM; rw [getD_at M q hq, List.getD_eq_getElem?_getD, List.getElem?_eq_getElem hp]; rfl
theorem innB_get {gs : List (Nat × Nat)} {M : List (List Int)} {q : Nat} {g : Nat × Nat} (hg : gs[q]? = some g) (hq : q < M.length) : (innB gs M)[q]? = some (rowOf eInt (.slice (some ⟨g.1, 0, none⟩) M[q].length g.2) 2 1 M[q]) := by
  unfold innB
  rw [List.getElem?_zipWith, hg, List.getElem?_eq_getElem hq]
theorem innB_set {gs : List (Nat × Nat)} {M : List (List Int)} {q : Nat} {g : Nat × Nat} (hg : gs[q]? = some g) (hq : q < M.length) (ys : List Int) (hy : ys.length = M[q].length) : (innB gs M).set q (rowOf eInt (.slice (some ⟨g.1, 0, none⟩) M[q].length g.2) 2 1 ys) = innB gs (M.set q ys) := by
  have hgl : q < gs.length := (List.getElem?_eq_some_iff.1 hg).1
  have hge : gs[q] = g := (List.getElem?_eq_some_iff.1 hg).2
  unfold innB
  apply List.ext_getElem (by simp)
  intro i h1 h2
  simp only [List.getElem_set, List.getElem_zipWith]
  by_cases e : q = i
  · subst e
    simp only [if_true, hge, hy]
  · simp only [if_neg e]
theorem innB_snoc (gs : List (Nat × Nat)) (M : List (List Int)) (h : gs.length = M.length) (g : Nat × Nat) (xs : List Int) : innB gs M ++ [rowOf eInt (.slice (some ⟨g.1, 0, none⟩) xs.length g.2) 2 1 xs] = innB (gs ++ [g]) (M ++ [xs]) := by
  unfold innB
  rw [List.zipWith_append (by exact h)]; rfl
theorem perm_last {α : Type} (A B : List α) (x : α) : ((A ++ B) ++ [x]).Perm ((A ++ [x]) ++ B) := by
  rw [List.append_assoc, List.append_assoc]
  exact List.Perm.append_left A (List.perm_append_comm)
section
variable {w0 w : World} {m0 m : Nat → Prop} {A : List Blk} {R : World → Prop} {gs : List (Nat × Nat)} {M : List (List Int)}
theorem inn_cells (h : St w0 m0 m (A ++ innB gs M) R w) {q p : Nat} {g : Nat × Nat} (hg : gs[q]? = some g) (hq : q < M.length) (hp : p < M[q].length) : Cells w ((⟨g.1, 0, none⟩ : Addr).add (p * 1)) (eInt (getM M q p)) := by
  rw [getM_at M q p hq hp]
  exact St.own_cells2 (enc := eInt) (sz := 1) h (A.length + q) (by rw [List.getElem?_append_right (by omega), Nat.add_sub_cancel_left]; exact innB_get hg hq) (fun _ => rfl) (fun _ => rfl) (by decide) p hp
theorem St.freezeAll : ∀ (B : List Blk) {A : List Blk} {R : World → Prop}, St w0 (fun _ => False) m (A ++ B) R w → St w0 (fun _ => False) m A (fun w => R w ∧ ∀ x ∈ B, x.holds w) w
  | [], A, R, h => by rw [List.append_nil] at h; exact h.imp (fun w h => ⟨h, by simp⟩)
  | x :: B, A, R, h => by
    have h1 := h.freeze A.length (x := x) (by rw [List.getElem?_append_right (by omega), Nat.sub_self]; rfl)
    rw [List.eraseIdx_append_of_length_le (by omega), Nat.sub_self] at h1
    refine (St.freezeAll B h1).imp (fun w h => ⟨h.1.1, fun y hy => ?_⟩)
    rcases List.mem_cons.1 hy with rfl | hy
    · exact h.1.2
    · exact h.2 y hy
end
section
variable {P : Program} {ops : Array Oper} {Q : Exit → Act → World → Prop} {n : Nat} {F : Fr} {rest : List Oper} {ty : Nat} {pos : String} {af : Array Edge}
variable {w0 : World} {m0 m : Nat → Prop} {A : List Blk} {R : World → Prop}
theorem Wl.front {l : List Oper} {L : List Blk} (A B : List Blk) (x : Blk) (hL : L = (A ++ B) ++ [x]) (h : Wl none P ops Q n l F (St w0 m0 m ((A ++ [x]) ++ B) R)) : Wl none P ops Q n l F (St w0 m0 m L R) := by
  subst hL
  exact h.heap (fun w hw => hw.perm (perm_last A B x))
theorem Wl.storeI {t : TypeId} {x y : Operand} {z : Value} {by_ q p : Nat} {v : Int} {g : Nat × Nat} {gs : List (Nat × Nat)} {M : List (List Int)} (hT : TyF P t false z 1 by_) (hx : F.ev x = some (.pointer (some ((⟨g.1, 0, none⟩ : Addr).add (p * 1))))) (hy : F.ev y = some (.int .i64 v))
    (hg : gs[q]? = some g) (hq : q < M.length) (hp : p < M[q].length)
    (h : Wl none P ops Q n rest F (St w0 m0 m (A ++ innB gs (setM M q p v)) R)) : Wl none P ops Q n ({ dst := none, op := .store t x y, type := ty, pos := pos, after := af, guard := none } :: rest) F (St w0 m0 m (A ++ innB gs M) R) := by
  refine Wl.storee (A.length + q) p 0 (enc := eInt) (esz := 1) (xs := M[q]) v hT hx hy (by rw [List.getElem?_append_right (by omega), Nat.add_sub_cancel_left]; exact innB_get hg hq) rfl (fun _ => rfl) rfl rfl rfl hp (addr_at _ _) (Nat.le_refl _) rfl ?_
  rw [List.set_append_right _ _ (by omega), Nat.add_sub_cancel_left, innB_set hg hq _ (by rw [List.length_set])]
  unfold setM at h
  rw [getD_at M q hq] at h
  exact h
end
def slOf (gs : List (Nat × Nat)) (ns : List Node) : List Sl := List.zipWith (fun g n => ((some ⟨g.1, 0, none⟩, n.par.toNat, g.2) : Sl)) gs ns
theorem slOf_get {gs : List (Nat × Nat)} {ns : List Node} {q : Nat} {g : Nat × Nat} (hg : gs[q]? = some g) (hq : q < ns.length) (h2 : q < (slOf gs ns).length) : (slOf gs ns)[q] = (some ⟨g.1, 0, none⟩, ns[q].par.toNat, g.2) := by
  obtain ⟨h3, h4⟩ := List.getElem?_eq_some_iff.1 hg
  simp [slOf, h4]
theorem slOf_len (gs : List (Nat × Nat)) (ns : List Node) (h : gs.length = ns.length) : (slOf gs ns).length = ns.length := by unfold slOf; rw [List.length_zipWith]; omega
structure Shape (ns : List Node) (M : List (List Int)) : Prop where
  len : M.length = ns.length
  row : ∀ (j : Nat) (h : j < M.length) (h2 : j < ns.length), M[j].length = ns[j].par.toNat
theorem Shape.set {ns : List Node} {M : List (List Int)} (h : Shape ns M) (q : Nat) (ys : List Int) (hy : ∀ hq : q < ns.length, ys.length = ns[q].par.toNat) : Shape ns (M.set q ys) := by
  refine ⟨by rw [List.length_set]; exact h.len, fun j h1 h2 => ?_⟩
  rw [List.getElem_set]
  split
  · rename_i e; subst e; exact hy h2
  · exact h.row j (by simpa using h1) h2
theorem Shape.setM {ns : List Node} {M : List (List Int)} (h : Shape ns M) (q p : Nat) (v : Int) : Shape ns (setM M q p v) := by
  unfold Go.Proofs.YtkffjbijamfnoaaGreat.setM
  refine h.set q _ (fun hq => ?_)
  have hq2 : q < M.length := by rw [h.len]; exact hq
  rw [List.length_set, getD_at M q hq2]
  exact h.row q hq2 hq
theorem inner_all {ns : List Node} {gs : List (Nat × Nat)} {M : List (List Int)} (hs : Shape ns M) (hg : gs.length = ns.length) {w : World} (h : ∀ x ∈ innB gs M, x.holds w) : Inner kInt w (slOf gs ns) M := by
  refine ⟨by rw [slOf_len gs ns hg, hs.len], fun j p xs h1 h2 => ?_⟩
  obtain ⟨hj, rfl⟩ := List.getElem?_eq_some_iff.1 h2
  have hjn : j < ns.length := by rw [← hs.len]; exact hj
  have hgj : gs[j]? = some gs[j] := List.getElem?_eq_getElem (by omega)
  have h3 := h _ (List.mem_of_getElem? (innB_get hgj hj))
  rw [List.getElem?_eq_getElem (by rw [slOf_len gs ns hg]; exact hjn), slOf_get hgj hjn] at h1
  cases h1
  have hr := hs.row j hj hjn
  obtain ⟨A, c, e, hc, hrow⟩ := own_row_pure (enc := eInt) (sz := 1) (fun _ => rfl) (fun _ => rfl) (by decide) h3 rfl
  injection e with e1 e2 e3
  subst e1 e3
  exact ⟨hr.symm, hc, hrow⟩
end Go.Proofs.YtkffjbijamfnoaaGreat
