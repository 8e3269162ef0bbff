/-
  Arguments that came in: what a reading says of memory.
-/
import Derived.Test.YtkffjbijamfnoaaGreatRows
import Derived.ProofKit
import Derived.Deep.Slices
import Derived.Deep.Strs
import Derived.Below
import Derived.Carry
import Derived.Test.YtkffjbijamfnoaaGreatSpec
set_option linter.unusedVariables false
set_option linter.unusedSimpArgs false
namespace Go.Proofs.YtkffjbijamfnoaaGreat
open Go.RowKit
/-- What can be read is of a kind, whatever is done besides. -/
def Opn {α : Type} (P : Program) (dk : Kn α) (t : TypeId) : Prop :=
  ∀ (H : Type) (enc : TypeId × Value → H) (w : World) (base : Nat) (spare : Nat → Bool) (held : Bool) (fuel : Nat) (cs : List Value) (x : DataW H × List MemPlace), DataW.trod enc P w base spare held fuel t cs = some x → ∃ a, Ro (fun _ => False) w (fun w => dk.K w a cs)
theorem cells_ro {w : World} {base : Nat} {a : Addr} {n : Nat} {cs : List Value} (h : w.cells? base a n = some cs) : Ro (fun _ => False) w (fun w => Cells w a cs) := by
  obtain ⟨hb, hl, hc⟩ := World.cells?_some h
  intro W' hW i u hu
  have hi : i < cs.length := (List.getElem?_eq_some_iff.1 hu).1
  have h1 := (hc i (by omega)).trans hu
  have hblk : (a.add i).block < w.heap.size := by
    refine Decidable.byContradiction fun hn => ?_
    have e : w.heap[(a.add i).block]? = none := by rw [Array.getElem?_eq_none_iff]; omega
    simp [World.cell?, e] at h1
  rw [← h1]
  exact World.cell?_of_block (hW.2 _ hblk (fun e => e))
theorem Opn.int {P : Program} {t : TypeId} (ht : P.underlying t = some (.int .i64)) : Opn P kInt t := fun H enc w base spare held fuel cs x h => by
  obtain ⟨n, rfl, _⟩ := DataW.trod_int ht h
  exact ⟨n, Ro.const rfl⟩
theorem Opn.slice {α : Type} {P : Program} {dk : Kn α} {t e : TypeId} [Inhabited α] (ht : P.underlying t = some (.slice e)) (hsz : P.cellsOf e = dk.sz) (ho : Opn P dk e) : Opn P dk.slice t := fun H enc w base spare held fuel cs x h => by
  rcases Go.Deep.open_slice ht h with ⟨rfl, _⟩ | ⟨a, len, cap, m, n, D, Pl, rfl, hb, hl, hm, hmm, _, hi⟩
  · exact ⟨[], fun W' _ => ⟨none, 0, rfl, Nat.le_refl _, by simp, fun h => absurd rfl h⟩⟩
  · have hlm : len ≤ m := by rw [hmm]; split <;> omega
    have hf : ∀ i, i < len → ∃ x : α, ∃ c, Ro (fun _ => False) w (fun w => dk.K w x c ∧ Cells w (a.add (i * dk.sz)) c) := fun i hi' => by
      obtain ⟨cs', h1, h2⟩ := hi i (by omega)
      obtain ⟨x, hx⟩ := ho H enc w base spare held n cs' _ h2
      rw [hsz] at h1
      exact ⟨x, cs', hx.and (cells_ro h1)⟩
    obtain ⟨f, hf⟩ := Go.Deep.choose_lt hf
    have hlen : ((List.range len).map f).length = len := by simp
    refine ⟨(List.range len).map f, fun W' hW => ⟨some a, cap, by rw [hlen], by rw [hlen]; exact hl, by rw [hlen]; simp only [maxLen] at hm; omega, fun _ => ⟨a, rfl, fun j x hj => ?_⟩⟩⟩
    have hjl : j < len := by have := (List.getElem?_eq_some_iff.1 hj).1; simpa using this
    rw [List.getElem?_map, List.getElem?_range hjl] at hj
    obtain rfl := Option.some.inj hj
    obtain ⟨c, hc⟩ := hf j hjl
    exact ⟨c, hc W' hW⟩
theorem Opn.rec3 {P : Program} {t : TypeId} {f0 f1 f2 : Field} (ht : P.underlying t = some (.struct #[f0, f1, f2])) (hc : P.cellsOf t = 3) (h0 : P.underlying f0.type = some (.int .i64) ∧ f0.offset = 0 ∧ P.cellsOf f0.type = 1) (h1 : P.underlying f1.type = some (.int .i64) ∧ f1.offset = 1 ∧ P.cellsOf f1.type = 1) (h2 : P.underlying f2.type = some (.int .i64) ∧ f2.offset = 2 ∧ P.cellsOf f2.type = 1) : Opn P kRec t := fun H enc w base spare held fuel cs x h => by
  obtain ⟨y0, y1, y2, n, _, hl, e0, e1, e2⟩ := Go.Deep.trod_struct3 ht h
  obtain ⟨a, ha, _⟩ := DataW.trod_int h0.1 e0
  obtain ⟨b, hb, _⟩ := DataW.trod_int h1.1 e1
  obtain ⟨c, hcc, _⟩ := DataW.trod_int h2.1 e2
  rw [h0.2.1, h0.2.2] at ha
  rw [h1.2.1, h1.2.2] at hb
  rw [h2.2.1, h2.2.2] at hcc
  rw [hc] at hl
  match cs, hl with
  | [v0, v1, v2], _ =>
    simp at ha hb hcc
    subst ha hb hcc
    exact ⟨⟨a, b, c⟩, Ro.const rfl⟩
/-- A slice argument. -/
theorem Opn.arg {α : Type} {P : Program} {dk : Kn α} {t : TypeId} (ho : Opn P dk.slice t) {H : Type} {enc : TypeId × Value → H} {w : World} {base : Nat} {spare : Nat → Bool} {held : Bool} {v : Value} {d : DataW H} {ps : List MemPlace} (h : DataW.Trod enc P w base spare held t v d ps) {a : Option Addr} {len cap : Nat} (hv : v = .slice a len cap) :
    ∃ xs : List α, xs.length = len ∧ len ≤ cap ∧ Ro (fun _ => False) w (fun w => dk.Row w a xs) := by
  obtain ⟨fuel, hf⟩ := h
  obtain ⟨xs, hx⟩ := ho H enc w base spare held fuel _ _ hf
  subst hv
  obtain ⟨A, c, e, hc, _⟩ := hx.now
  simp only [Value.cells, List.cons.injEq, and_true] at e
  have e' : Value.slice a len cap = Value.slice A xs.length c := by simpa [Value.cells] using e
  injection e' with e1 e2 e3
  subst e1 e2 e3
  refine ⟨xs, rfl, hc, fun W' hW => ?_⟩
  obtain ⟨A', c', e, _, hr⟩ := hx W' hW
  have e' : Value.slice a xs.length cap = Value.slice A' xs.length c' := by simpa [Value.cells] using e
  injection e' with e1 e2 e3
  subst e1
  exact hr
end Go.Proofs.YtkffjbijamfnoaaGreat
