/-
  The chapter's examples: what they are, how they lie in memory, what they mean.
-/
import Derived.Test.YtkffjbijamfnoaaGreatRef14
set_option linter.unusedVariables false
set_option linter.unusedSimpArgs false
namespace Go.Proofs.YtkffjbijamfnoaaGreat
open Go.RowKit
section
variable {P : Program} {ops : Array Oper} {Q : Exit → Act → World → Prop} {n : Nat} {F : Fr} {rest : List Oper} {H : World → Prop}
theorem Wl.unguard {o : Oper} (h : Wl none P ops Q n ({ o with guard := none } :: rest) F H) (hg : wantedF ops F o.guard = some true := by rfl) : Wl none P ops Q n (o :: rest) F H := fun a w ho hw => by
  have h1 := h a w ho hw
  unfold wpList at h1 ⊢
  rw [wantedF_spec ho hg, if_pos rfl]
  rw [if_pos (show Region.wanted { o with guard := none } (yielded ops a.tmps) = true from rfl)] at h1
  exact h1
end
theorem row_box {α : Type} {dk : Kn α} {w : World} {b : Nat} {cs : List Value} {t : TypeId} {xs : List α} (h : (Blk.box b cs t).holds w) (hl : xs.length ≤ 9223372036854775807) (hx : ∀ (j : Nat) (x : α), xs[j]? = some x → dk.K w x ((cs.drop (j * dk.sz)).take dk.sz)) : dk.Row w (some ⟨b, 0, none⟩) xs :=
  ⟨hl, fun _ => ⟨_, rfl, fun j x hj => ⟨_, hx j x hj, Cells.part (Blk.box_cells h) _ _⟩⟩⟩
theorem row_box1 {α : Type} {dk : Kn α} {w : World} {b : Nat} {cs : List Value} {t : TypeId} {x : α} (h : (Blk.box b cs t).holds w) (hx : dk.K w x cs) (hl : cs.length = dk.sz) : dk.Row w (some ⟨b, 0, none⟩) [x] :=
  row_box h (by simp) (fun j y hj => by
    cases j with
    | zero => cases hj; rw [Nat.zero_mul, List.drop_zero, List.take_of_length_le (by omega)]; exact hx
    | succ j => simp at hj)
theorem box_int {w : World} {b : Nat} {t : TypeId} {x : Int} (h : (Blk.box b [.int .i64 x] t).holds w) : kInt.Row w (some ⟨b, 0, none⟩) [x] := row_box1 h rfl rfl
theorem box_ints {w : World} {b b2 : Nat} {t t2 : TypeId} {x : Int} (h : (Blk.box b [.slice (some ⟨b2, 0, none⟩) 1 1] t).holds w) (h2 : (Blk.box b2 [.int .i64 x] t2).holds w) : (Kn.slice kInt).Row w (some ⟨b, 0, none⟩) [[x]] :=
  row_box1 h ⟨_, _, rfl, Nat.le_refl _, box_int h2⟩ rfl
def KJ : List Node := [⟨1, [], 1, ⟨0, 0, []⟩, 0, ⟨0, 0, 0⟩⟩, ⟨7, [0], 2, ⟨0, 0, []⟩, 1, ⟨1, 10, 0⟩⟩, ⟨8, [1], 1, ⟨0, 0, []⟩, 0, ⟨0, 0, 0⟩⟩]
def KI : List Item := [⟨1, ⟨1, 5, 2⟩, 0⟩, ⟨2, ⟨0, 0, 0⟩, 9⟩, ⟨1, ⟨1, 7, 3⟩, 0⟩, ⟨2, ⟨0, 0, 0⟩, 9223372036854775807⟩]
def KL : Logs := [[KI], [], []]
def kjCells (b8 b11 : Nat) : List Value := [.int .i64 1, .slice none 0 0, .int .i64 1, .int .i64 0, .int .i64 0, .slice none 0 0, .int .i64 0, .int .i64 0, .int .i64 0, .int .i64 0,
  .int .i64 7, .slice (some ⟨b8, 0, none⟩) 1 1, .int .i64 2, .int .i64 0, .int .i64 0, .slice none 0 0, .int .i64 1, .int .i64 1, .int .i64 10, .int .i64 0,
  .int .i64 8, .slice (some ⟨b11, 0, none⟩) 1 1, .int .i64 1, .int .i64 0, .int .i64 0, .slice none 0 0, .int .i64 0, .int .i64 0, .int .i64 0, .int .i64 0]
theorem kj_row {w : World} {b8 b11 b13 : Nat} (h8 : (Blk.box b8 [.int .i64 0] 3).holds w) (h11 : (Blk.box b11 [.int .i64 1] 3).holds w) (h13 : (Blk.box b13 (kjCells b8 b11) 31).holds w) : kNode.Row w (some ⟨b13, 0, none⟩) KJ :=
  row_box h13 (by decide) (fun j x hj => by
    match j, hj with
    | 0, hj => cases hj; exact ⟨none, 0, none, 0, rfl, Nat.le_refl _, nil_row _ _, Nat.le_refl _, nil_row _ _⟩
    | 1, hj => cases hj; exact ⟨some ⟨b8, 0, none⟩, 1, none, 0, rfl, Nat.le_refl _, box_int h8, Nat.le_refl _, nil_row _ _⟩
    | 2, hj => cases hj; exact ⟨some ⟨b11, 0, none⟩, 1, none, 0, rfl, Nat.le_refl _, box_int h11, Nat.le_refl _, nil_row _ _⟩)
theorem kl_row {w : World} {b19 b20 b21 : Nat} (h19 : (Blk.box b19 (KI.flatMap eItem) 100).holds w) (h20 : (Blk.box b20 [.slice (some ⟨b19, 0, none⟩) 4 4] 22).holds w) (h21 : (Blk.box b21 [.slice (some ⟨b20, 0, none⟩) 1 1, .slice none 0 0, .slice none 0 0] 36).holds w) : kParts.Row w (some ⟨b21, 0, none⟩) KL :=
  row_box h21 (by decide) (fun j x hj => by
    match j, hj with
    | 0, hj =>
      cases hj
      refine ⟨some ⟨b20, 0, none⟩, 1, rfl, Nat.le_refl _, row_box1 h20 ⟨some ⟨b19, 0, none⟩, 4, rfl, Nat.le_refl _, row_box h19 (by decide) (fun j y hj => ?_)⟩ rfl⟩
      show _ = eItem y
      match j, hj with
      | 0, hj => cases hj; rfl
      | 1, hj => cases hj; rfl
      | 2, hj => cases hj; rfl
      | 3, hj => cases hj; rfl
    | 1, hj => cases hj; exact ⟨none, 0, rfl, Nat.le_refl _, nil_row _ _⟩
    | 2, hj => cases hj; exact ⟨none, 0, rfl, Nat.le_refl _, nil_row _ _⟩)
def KA : List (List Rec) := [[⟨1, 5, 2⟩], [⟨1, 9, 2⟩], [⟨1, 9, 2⟩]]
def KB : List (List Rec) := [[⟨1, 5, 2⟩], [], []]
def KC : List (List Pane) := [[], [⟨1, ⟨0, 10⟩, 2⟩], []]
def KD : List (List Int) := [[9], [9, 9], [9]]
theorem k_all : meanAll KJ KL = KA := by decide +kernel
theorem k_cut : meanCut KJ KL [[1]] = KB := by decide +kernel
theorem k_left : meanLeft KJ KL [[1]] = KC := by decide +kernel
theorem k_marks : meanMarks KJ KL [[2]] = KD := by decide +kernel
theorem k_late : (late KI).length = 3 := by decide +kernel
theorem k_w1 : within [⟨1, 9, 2⟩] [⟨1, 9, 2⟩] = true := by decide +kernel
theorem k_w2 : within [⟨1, 9, 2⟩] [] = false := by decide +kernel
theorem k_small : ∀ x ∈ KJ, x.e.count ≤ 1099511627776 := by
  intro x hx
  simp only [KJ, List.mem_cons, List.not_mem_nil, or_false] at hx
  rcases hx with rfl | rfl | rfl <;> decide
end Go.Proofs.YtkffjbijamfnoaaGreat
