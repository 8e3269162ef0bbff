/-
  A small logic for walks: partial frames, assertions on worlds. No function of the program stands in this text.
-/
import Derived.Scope
import Derived.OrdersHeld
import Derived.Deep.RegionHeld3
import Derived.Test.YtkffjbijamfnoaaGreatProg
import Derived.WalkKit
import Derived.KernelRfl
import Derived.RowKit3
import Derived.Below
import Derived.Deep.LoopGhost
import Derived.Deep.QuietTactic
import Derived.Deep.AppendLies
import Derived.BigQuiet
import Derived.OwnWalk
import Derived.StillTail
import Derived.Laws.OwnMore
import Derived.Laws.Rows
import Derived.Deep.OwnRows
import Derived.Lib.Hide
import Derived.Maps.AppendAt
import Derived.WalkLawsBesides
import Derived.WalkSpells
import Derived.Test.YtkffjbijamfnoaaGreatHlTail
set_option linter.unusedVariables false
set_option linter.unusedSimpArgs false
namespace Go.Proofs.YtkffjbijamfnoaaGreat
open Go.RowKit

/-- A partial frame: what some slots hold. -/
abbrev Fr := List (Nat × Value)
def Fr.get : Fr → Nat → Option Value
  | [], _ => none
  | (i, v) :: F, j => bif Nat.beq i j then some v else Fr.get F j
def Fr.ev (F : Fr) : Operand → Option Value
  | .tmp t => F.get t
  | .const v => some v
  | .global g => some (.pointer (some ⟨g, 0, none⟩))
  | .func f => some (.func (.func f) #[] #[])
def Fr.ok (n : Nat) (F : Fr) (a : Act) : Prop := a.defers = [] ∧ a.tmps.size = n ∧ ∀ i v, F.get i = some v → a.tmps[i]? = some v
/-- All of F' stands in F. -/
def Fr.sub : Fr → Fr → Prop
  | [], _ => True
  | (i, v) :: F', F => F.get i = some v ∧ Fr.sub F' F
theorem Fr.sub_get {F' F : Fr} (h : F'.sub F) : ∀ i v, F'.get i = some v → F.get i = some v := by
  induction F' with
  | nil => intro i v h; simp [Fr.get] at h
  | cons p F' ih =>
    obtain ⟨j, u⟩ := p
    intro i v hg
    simp only [Fr.get] at hg
    by_cases e : Nat.beq j i = true
    · rw [e] at hg
      simp at hg
      subst hg
      obtain rfl := Nat.eq_of_beq_eq_true e
      exact h.1
    · rw [Bool.eq_false_iff.2 e] at hg
      exact ih h.2 i v hg
theorem Fr.ok_sub {n : Nat} {F' F : Fr} {a : Act} (h : F'.sub F) (ho : F.ok n a) : F'.ok n a := ⟨ho.1, ho.2.1, fun i v hg => ho.2.2 i v (Fr.sub_get h i v hg)⟩
theorem Fr.ok_ev {n : Nat} {F : Fr} {a : Act} (ho : F.ok n a) {x : Operand} {v : Value} (h : F.ev x = some v) : a.eval x = v := by
  cases x with
  | tmp t =>
    have h1 := ho.2.2 t v h
    show a.tmps.getD t undef = v
    simp [Array.getD_eq_getD_getElem?, h1]
  | const u => exact Option.some.inj h
  | global g => exact Option.some.inj h
  | func f => exact Option.some.inj h
theorem Fr.ok_put {n : Nat} {F : Fr} {a : Act} (ho : F.ok n a) (d : Nat) (v : Value) (hd : Nat.blt d n = true) : Fr.ok n ((d, v) :: F) (a.put (some d) v) := by
  have hd' : d < n := by simpa [Nat.blt_eq] using hd
  obtain ⟨h1, h2, h3⟩ := ho
  refine ⟨h1, by simpa [Act.put] using h2, fun i u hg => ?_⟩
  simp only [Fr.get] at hg
  show (a.tmps.setIfInBounds d v)[i]? = some u
  by_cases e : Nat.beq d i = true
  · rw [e] at hg
    simp at hg
    subst hg
    obtain rfl := Nat.eq_of_beq_eq_true e
    simp [h2, hd']
  · rw [Bool.eq_false_iff.2 e] at hg
    have hne : d ≠ i := fun h => e (by rw [h]; exact Nat.beq_refl i)
    rw [Array.getElem?_setIfInBounds, if_neg hne]
    exact h3 i u hg
theorem Fr.ok_put_none {n : Nat} {F : Fr} {a : Act} (ho : F.ok n a) (v : Value) : Fr.ok n F (a.put none v) := ho

/-- A list of operations, from a partial frame and an assertion on; md: of a region that draws its order, each operation being quiet in the class H. -/
def stillL (P : Program) (ops : Array Oper) (S : World → Prop) (K : Act → Prop) : List Oper → Act → Prop
  | [], a => K a
  | o :: rest, a => ∃ v, YieldsIf P ops S o v a ∧ stillL P ops S K rest (a.put o.dst v)
def Wl (md : Option (Bool × (Act → Prop))) (P : Program) (ops : Array Oper) (Q : Exit → Act → World → Prop) (n : Nat) (l : List Oper) (F : Fr) (H : World → Prop) : Prop := match md with
  | none => ∀ a w, F.ok n a → H w → wpList P ops Q l a w
  | some (false, K) => ∀ a, F.ok n a → wpQuiet P ops H K l a
  | some (true, K) => ∀ a, F.ok n a → stillL P ops H K l a
/-- Not taken first. -/
def callsMd : Option (Bool × (Act → Prop)) → Bool
  | some (true, _) => false
  | _ => true
section
variable (P : Program) (Q : Exit → Act → World → Prop) (n : Nat)
def Wc (c : Code) (F : Fr) (H : World → Prop) : Prop := ∀ a w, F.ok n a → H w → c.wp P Q a w
/-- What is asked at an exit. -/
def Wx (e : Exit) (F : Fr) (H : World → Prop) : Prop := ∀ a w, F.ok n a → H w → Q e a w
end

section
variable {P : Program} {ops : Array Oper} {Q : Exit → Act → World → Prop} {n : Nat} {F F' : Fr} {H H' : World → Prop}
theorem Wc.conseq {c : Code} (hF : F'.sub F) (hH : ∀ w, H w → H' w) (h : Wc P Q n c F' H') : Wc P Q n c F H := fun a w ho hw => h a w (Fr.ok_sub hF ho) (hH w hw)
theorem Wl.conseq {l : List Oper} (hF : F'.sub F) (hH : ∀ w, H w → H' w) (h : Wl none P ops Q n l F' H') : Wl none P ops Q n l F H := fun a w ho hw => h a w (Fr.ok_sub hF ho) (hH w hw)
theorem Wx.conseq {e : Exit} (hF : F'.sub F) (hH : ∀ w, H w → H' w) (h : Wx Q n e F' H') : Wx Q n e F H := fun a w ho hw => h a w (Fr.ok_sub hF ho) (hH w hw)
theorem Wc.frame {c : Code} (F' : Fr) (hF : F'.sub F) (h : Wc P Q n c F' H) : Wc P Q n c F H := Wc.conseq hF (fun _ h => h) h
theorem Wl.frame {l : List Oper} (F' : Fr) (hF : F'.sub F) (h : Wl none P ops Q n l F' H) : Wl none P ops Q n l F H := Wl.conseq hF (fun _ h => h) h
theorem Wc.heap {c : Code} (hH : ∀ w, H w → H' w) (h : Wc P Q n c F H') : Wc P Q n c F H := fun a w ho hw => h a w ho (hH w hw)
theorem Wl.heap {l : List Oper} (hH : ∀ w, H w → H' w) (h : Wl none P ops Q n l F H') : Wl none P ops Q n l F H := fun a w ho hw => h a w ho (hH w hw)
theorem Wx.heap {e : Exit} (hH : ∀ w, H w → H' w) (h : Wx Q n e F H') : Wx Q n e F H := fun a w ho hw => h a w ho (hH w hw)
theorem Wc.ex {c : Code} {α : Type} {H' : α → World → Prop} (hH : ∀ w, H w → ∃ x, H' x w) (h : ∀ x, Wc P Q n c F (H' x)) : Wc P Q n c F H := fun a w ho hw => let ⟨x, hx⟩ := hH w hw; h x a w ho hx
theorem Wl.ex {l : List Oper} {α : Type} {H' : α → World → Prop} (hH : ∀ w, H w → ∃ x, H' x w) (h : ∀ x, Wl none P ops Q n l F (H' x)) : Wl none P ops Q n l F H := fun a w ho hw => let ⟨x, hx⟩ := hH w hw; h x a w ho hx
theorem Wx.ex {e : Exit} {α : Type} {H' : α → World → Prop} (hH : ∀ w, H w → ∃ x, H' x w) (h : ∀ x, Wx Q n e F (H' x)) : Wx Q n e F H := fun a w ho hw => let ⟨x, hx⟩ := hH w hw; h x a w ho hx
/-- A fact without a world. -/
theorem Wc.pure {c : Code} {p : Prop} (hH : ∀ w, H w → p) (h : p → Wc P Q n c F H) : Wc P Q n c F H := fun a w ho hw => h (hH w hw) a w ho hw
theorem Wl.pure {l : List Oper} {p : Prop} (hH : ∀ w, H w → p) (h : p → Wl none P ops Q n l F H) : Wl none P ops Q n l F H := fun a w ho hw => h (hH w hw) a w ho hw
theorem Wx.pure {e : Exit} {p : Prop} (hH : ∀ w, H w → p) (h : p → Wx Q n e F H) : Wx Q n e F H := fun a w ho hw => h (hH w hw) a w ho hw

/-! ### code -/
theorem Wc.seq {x y : Code} (h : Wc P (Exit.then (y.wp P Q) Q) n x F H) : Wc P Q n (.seq x y) F H := fun a w ho hw => wp_seq (h a w ho hw)
theorem Wc.skip (h : Wx Q n .normal F H) : Wc P Q n .skip F H := fun a w ho hw => wp_skip (h a w ho hw)
theorem Wc.label {l : Nat} (h : Wx Q n .normal F H) : Wc P Q n (.label l) F H := fun a w ho hw => wp_label (h a w ho hw)
theorem Wc.ret (h : Wx Q n .ret F H) : Wc P Q n .ret F H := fun a w ho hw => wp_ret (h a w ho hw)
theorem Wc.exit {id : Nat} (h : Wx Q n (.exit id) F H) : Wc P Q n (.exit id) F H := fun a w ho hw => wp_exit (h a w ho hw)
theorem Wc.block {id : Nat} {c : Code} (h : Wc P (Exit.inBlock id Q) n c F H) : Wc P Q n (.block id c) F H := fun a w ho hw => wp_block (h a w ho hw)
theorem Wc.cond_t {c : Operand} {x y : Code} (hc : F.ev c = some (.bool true)) (h : Wc P Q n x F H) : Wc P Q n (.cond c x y) F H := fun a w ho hw => wp_cond_true (Fr.ok_ev ho hc) (h a w ho hw)
theorem Wc.cond_f {c : Operand} {x y : Code} (hc : F.ev c = some (.bool false)) (h : Wc P Q n y F H) : Wc P Q n (.cond c x y) F H := fun a w ho hw => wp_cond_false (Fr.ok_ev ho hc) (h a w ho hw)
theorem Wc.cond {c : Operand} {x y : Code} {b : Bool} (hc : F.ev c = some (.bool b)) (h : b = true → Wc P Q n x F H) (h' : b = false → Wc P Q n y F H) : Wc P Q n (.cond c x y) F H := fun a w ho hw => by
  cases b with
  | true => exact wp_cond_true (Fr.ok_ev ho hc) (h rfl a w ho hw)
  | false => exact wp_cond_false (Fr.ok_ev ho hc) (h' rfl a w ho hw)
theorem Wc.condp {c : Operand} {x y : Code} {p : Prop} [Decidable p] (hc : F.ev c = some (.bool (decide p))) (h : p → Wc P Q n x F H) (h' : ¬ p → Wc P Q n y F H) : Wc P Q n (.cond c x y) F H :=
  Wc.cond hc (fun e => h (of_decide_eq_true e)) (fun e => h' (of_decide_eq_false e))
theorem Wc.region {id : Nat} {l : List Oper} (h : Wl none P l.toArray Q n l F H) : Wc P Q n (.region id l.toArray false) F H := fun a w ho hw => wp_region_lit (h a w ho hw)
theorem Wl.nil (h : Wx Q n .normal F H) : Wl none P ops Q n [] F H := fun a w ho hw => h a w ho hw
theorem Wl.nilq (h : Wx Q n .normal F H) : Wl (some (false, fun a' => ∀ w', H w' → Q .normal a' w')) P ops Q n [] F H := fun a ho => wpQuiet_nil (fun w' hw => h a w' ho hw)
theorem Wl.nilt {tail : List Oper} (h : Wl none P ops Q n tail F H) : Wl (some (false, fun a' => ∀ w', H w' → wpList P ops Q tail a' w')) P ops Q n [] F H := fun a ho => wpQuiet_nil (fun w' hw => h a w' ho hw)
/-- A region that draws its order, quiet in H. -/
theorem Wc.draw {id : Nat} {l : List Oper} (hm : P.follows .mixedOrders = true) (hB : Region.lexB .any l.toArray = true) (hd : ∀ w, H w → H { w with drawn := w.drawn + 1 }) (h : Wl (some (false, fun a' => ∀ w', H w' → Q .normal a' w')) P l.toArray Q n l F H) : Wc P Q n (.region id l.toArray true) F H :=
  fun a w ho hw => wp_region_quiet hm hB (hd w hw) (by simpa using h a ho)
/-- Quiet but for a tail. -/
theorem Wc.drawt {id : Nat} {l : List Oper} (k : Nat) (hm : P.follows .mixedOrders = true) (hB : Region.lexTailB .any l.toArray k = true) (hd : ∀ w, H w → H { w with drawn := w.drawn + 1 }) (h : Wl (some (false, fun a' => ∀ w', H w' → wpList P l.toArray Q (l.drop k) a' w')) P l.toArray Q n (l.take k) F H) : Wc P Q n (.region id l.toArray true) F H :=
  fun a w ho hw => wp_region_quiet_tail k hm hB (hd w hw) (h a ho)
/-- A region that draws its order, taken piece by piece: what only reads is taken first; what turns memory comes when nothing else may come. -/
def Wany (P : Program) (ops : Array Oper) (Q : Exit → Act → World → Prop) (n : Nat) (S : World → Prop) (f : Nat) (listed : Array Bool) (F : Fr) (H : World → Prop) : Prop := ∀ a w, F.ok n a → H w → wpAnyH P .any ops (NoPanic Q) S f listed a w
def pickOps (l : List Oper) : List Nat → List Oper
  | [] => []
  | i :: is => match l[i]? with
    | some o => o :: pickOps l is
    | none => pickOps l is
def takeB (ops : Array Oper) : List Nat → Array Bool → Bool
  | [], _ => true
  | i :: is, listed => Region.free .any ops listed i && (Region.ready .any ops listed).contains i && takeB ops is (listed.setIfInBounds i true)
def takeTo : List Nat → Array Bool → Array Bool
  | [], listed => listed
  | i :: is, listed => takeTo is (listed.setIfInBounds i true)
theorem Wany.start {id : Nat} {l : List Oper} (S : World → Prop) (hm : P.follows .mixedOrders = true) (hd : ∀ w, H w → H { w with drawn := w.drawn + 1 }) (h : Wany P l.toArray Q n S l.length (List.replicate l.length false).toArray F H) : Wc P Q n (.region id l.toArray true) F H :=
  fun a w ho hw => wp_region_noPanic (wp_region_held hm (by simpa using h a _ ho (hd w hw)))
theorem Wany.startH {id : Nat} {l : List Oper} (hm : P.follows .mixedOrders = true) (hd : ∀ w, H w → H { w with drawn := w.drawn + 1 }) (h : Wany P l.toArray Q n H l.length (List.replicate l.length false).toArray F H) : Wc P Q n (.region id l.toArray true) F H := Wany.start H hm hd h
theorem wpAnyH_takes {l : List Oper} {S : World → Prop} (hs : Region.noSelect l.toArray = true) : ∀ (is : List Nat) (f : Nat) (listed : Array Bool) (a : Act) (w : World), S w → takeB l.toArray is listed = true →
    stillL P l.toArray S (fun a' => ∀ w', S w' → w' = w → wpAnyH P .any l.toArray (NoPanic Q) S f (takeTo is listed) a' w') (pickOps l is) a → wpAnyH P .any l.toArray (NoPanic Q) S (f + is.length) listed a w
  | [], f, listed, a, w, hw, _, h => h w hw rfl
  | i :: is, f, listed, a, w, hw, hB, h => by
    simp only [takeB, Bool.and_eq_true] at hB
    obtain ⟨⟨hf, hr⟩, hB'⟩ := hB
    cases ho : l[i]? with
    | none => simp [Region.free, ho] at hf
    | some o =>
      simp only [pickOps, ho, stillL] at h
      obtain ⟨v, hy, h⟩ := h
      exact wpAnyH_take (i := i) (oi := o) (v := v) (by simpa using ho) hs hf hr (fun _ _ _ h => h) hy hw (wpAnyH_takes hs is f _ _ w hw hB' h)
/-- These are taken first. -/
theorem Wany.take {l : List Oper} {S : World → Prop} {f : Nat} {listed : Array Bool} (is : List Nat) (hS : ∀ w, H w → S w) (hB : (Region.noSelect l.toArray && takeB l.toArray is listed) = true)
    (h : Wl (some (true, fun a' => ∀ w, H w → wpAnyH P .any l.toArray (NoPanic Q) S f (takeTo is listed) a' w)) P l.toArray Q n (pickOps l is) F S) : Wany P l.toArray Q n S (f + is.length) listed F H := by
  simp only [Bool.and_eq_true] at hB
  refine fun a w ho hw => wpAnyH_takes hB.1 is f listed a w (hS w hw) hB.2 ?_
  have key : ∀ (l' : List Oper) (a : Act), stillL P l.toArray S (fun a' => ∀ w, H w → wpAnyH P .any l.toArray (NoPanic Q) S f (takeTo is listed) a' w) l' a → stillL P l.toArray S (fun a' => ∀ w', S w' → w' = w → wpAnyH P .any l.toArray (NoPanic Q) S f (takeTo is listed) a' w') l' a := by
    intro l'
    induction l' with
    | nil => exact fun a h w' _ e => e ▸ h w hw
    | cons o l' ih => rintro a ⟨v, hy, h⟩; exact ⟨v, hy, ih _ h⟩
  exact key _ _ (h a ho)
theorem Wl.nilh {ops : Array Oper} {S : World → Prop} {f : Nat} {listed : Array Bool} (h : Wany P ops Q n S f listed F H) : Wl (some (true, fun a' => ∀ w, H w → wpAnyH P .any ops (NoPanic Q) S f listed a' w)) P ops Q n [] F S := fun a ho w hw => h a w ho hw
/-- Behind a piece that turns memory. -/
def Eff (P : Program) (ops : Array Oper) (Q : Exit → Act → World → Prop) (S : World → Prop) (f : Nat) (listed : Array Bool) : Exit → Act → World → Prop
  | .normal, a, w => S w ∧ wpAnyH P .any ops (NoPanic Q) S f listed a w
  | e, a, w => NoPanic Q e a w
theorem wp_eff {o : Oper} {a : Act} {w : World} {K : Act → World → Prop} {Q1 Q2 : Exit → Act → World → Prop} (hp : ∀ c a w, Q1 (.panic c) a w → Q2 (.panic c) a w) (h : o.wp P a w K Q1) (hl : ∀ x, LetsOut Q1 → x = 0 → LetsOut Q2) : o.wp P a w K Q2 := by
  unfold Oper.wp at *
  generalize (execOp a.eval o).run P w = r at *
  cases r with
  | ok n w' =>
    cases n <;> simp only [Oper.upon] at h ⊢
    case value u => exact h
    case skip => exact h
    case defer d => exact h
    case enter f args =>
      refine Calls.mono h fun e w'' he => ?_
      cases e with
      | returned u => exact he
      | panicked c => exact hp _ _ _ he
      | outgrown => exact hl 0 he rfl
    case row row args => exact h
  | halt x w' =>
    cases x <;> simp only [Oper.upon] at h ⊢
    case panic u => exact hp _ _ _ h
theorem Wany.eff {l : List Oper} {S : World → Prop} {f : Nat} {listed : Array Bool} (k : Nat) {o : Oper} (ho : l[k]? = some o) (hr : Region.ready .any l.toArray listed = [k])
    (h : Wl none P l.toArray (Eff P l.toArray Q S f (listed.setIfInBounds k true)) n [o] F H) : Wany P l.toArray Q n S (f + 1) listed F H := fun a w hok hw => by
  refine wpAnyH_all hr (by simp) fun i hi => ?_
  obtain rfl := List.mem_singleton.1 hi
  have h1 := h a w hok hw
  unfold wpOp
  simp only [show l.toArray[i]? = some o by simpa using ho]
  simp only [wpList] at h1
  split
  · rename_i hwn
    rw [if_pos hwn] at h1
    rcases h1 with h1 | ⟨h3, h2⟩
    · exact .inl (wp_eff (fun _ _ _ h => h) h1 (fun _ h _ => h))
    · exact .inr ⟨h3, h2⟩
  · rename_i hwn
    rw [if_neg hwn] at h1
    exact h1
theorem Wl.nile {ops : Array Oper} {S : World → Prop} {f : Nat} {listed : Array Bool} (hS : ∀ w, H w → S w) (h : Wany P ops Q n S f listed F H) : Wl none P ops (Eff P ops Q S f listed) n [] F H := fun a w ho hw => ⟨hS w hw, h a w ho hw⟩
theorem Wany.done {ops : Array Oper} {S : World → Prop} {f : Nat} {listed : Array Bool} (hr : Region.ready .any ops listed = []) (h : Wx Q n .normal F H) : Wany P ops Q n S f listed F H := fun a w ho hw => by
  cases f with
  | zero => exact ⟨hr, h a w ho hw⟩
  | succ f => exact ⟨fun _ => h a w ho hw, by rw [hr]; simp⟩
/-- Is an operation under a guard carried out? -/
def wantedF (ops : Array Oper) (F : Fr) : Option (Nat × Bool) → Option Bool
  | none => some true
  | some (j, want) => match (ops[j]?).bind (·.dst) with
    | some d => match F.get d with
      | some (.bool b) => some (b == want)
      | some (.tuple _) => some false
      | _ => none
    | none => none
theorem wantedF_spec {ops : Array Oper} {F : Fr} {a : Act} {o : Oper} {b : Bool} {n : Nat} (ho : F.ok n a) (h : wantedF ops F o.guard = some b) : Region.wanted o (yielded ops a.tmps) = b := by
  unfold Region.wanted
  cases hg : o.guard with
  | none => rw [hg] at h; exact Option.some.inj h
  | some p =>
    obtain ⟨j, want⟩ := p
    rw [hg] at h
    simp only [wantedF] at h
    cases hd : (ops[j]?).bind (·.dst) with
    | none => simp only [hd] at h; cases h
    | some d =>
      simp only [hd] at h
      cases hv : F.get d with
      | none => simp only [hv] at h; cases h
      | some v =>
        have h1 := ho.2.2 d v hv
        simp only [hv] at h
        cases v <;> simp only [Option.some.injEq] at h
        case bool x => simp [yielded, hd, h1, ← h]
        case tuple x => simp [yielded, hd, h1, ← h]
        all_goals cases h
theorem Wl.skip {md : Option (Bool × (Act → Prop))} {o : Oper} {rest : List Oper} {d : Nat} (hd : o.dst = some d) (hn : Nat.blt d n = true) (h : Wl md P ops Q n rest ((d, undef) :: F) H) (hg : wantedF ops F o.guard = some false := by rfl) : Wl md P ops Q n (o :: rest) F H := by
  cases md with
  | none =>
    refine fun a w ho hw => wpList_step fun K hK => ?_
    rw [wantedF_spec ho hg, hd]
    exact hK _ _ (h _ _ (Fr.ok_put ho d undef hn) hw)
  | some K0 => match K0 with
    | (false, K0) =>
      refine fun a ho => wpQuiet_step fun K hK => ?_
      rw [wantedF_spec ho hg, hd]
      exact hK _ (h _ (Fr.ok_put ho d undef hn))
    | (true, K0) => exact fun a ho => ⟨undef, .inr ⟨wantedF_spec ho hg, rfl⟩, hd ▸ h _ (Fr.ok_put ho d undef hn)⟩
/-- A test's both ways, ahead of what it guards. -/
theorem Wl.split {md : Option (Bool × (Act → Prop))} {l : List Oper} {b : Bool} (d : Nat) (hd : F.get d = some (.bool b)) (ht : b = true → Wl md P ops Q n l ((d, .bool true) :: F) H) (hf : b = false → Wl md P ops Q n l ((d, .bool false) :: F) H) : Wl md P ops Q n l F H := by
  have key : ∀ {c : Bool}, b = c → ∀ a, F.ok n a → Fr.ok n ((d, .bool c) :: F) a := fun e a ho => ⟨ho.1, ho.2.1, fun i v hg => by
    simp only [Fr.get] at hg
    by_cases e2 : Nat.beq d i = true
    · rw [e2] at hg
      simp at hg
      subst hg
      obtain rfl := Nat.eq_of_beq_eq_true e2
      rw [← e]
      exact ho.2.2 d _ hd
    · rw [Bool.eq_false_iff.2 e2] at hg
      exact ho.2.2 i v hg⟩
  cases b with
  | true => cases md with
    | none => exact fun a w ho hw => ht rfl a w (key rfl a ho) hw
    | some K0 => match K0 with
      | (false, K0) => exact fun a ho => ht rfl a (key rfl a ho)
      | (true, K0) => exact fun a ho => ht rfl a (key rfl a ho)
  | false => cases md with
    | none => exact fun a w ho hw => hf rfl a w (key rfl a ho) hw
    | some K0 => match K0 with
      | (false, K0) => exact fun a ho => hf rfl a (key rfl a ho)
      | (true, K0) => exact fun a ho => hf rfl a (key rfl a ho)
theorem Wl.splitp {md : Option (Bool × (Act → Prop))} {l : List Oper} {p : Prop} [Decidable p] (d : Nat) (hd : F.get d = some (.bool (decide p))) (ht : p → Wl md P ops Q n l ((d, .bool true) :: F) H) (hf : ¬ p → Wl md P ops Q n l ((d, .bool false) :: F) H) : Wl md P ops Q n l F H :=
  Wl.split d hd (fun e => ht (of_decide_eq_true e)) (fun e => hf (of_decide_eq_false e))

/-! ### exits -/
theorem Wx.then_n {y : Code} (h : Wc P Q n y F H) : Wx (Exit.then (y.wp P Q) Q) n .normal F H := fun a w ho hw => h a w ho hw
theorem Wx.then_e {K : Act → World → Prop} {id : Nat} (h : Wx Q n (.exit id) F H) : Wx (Exit.then K Q) n (.exit id) F H := fun a w ho hw => h a w ho hw
theorem Wx.then_r {K : Act → World → Prop} (h : Wx Q n .ret F H) : Wx (Exit.then K Q) n .ret F H := fun a w ho hw => h a w ho hw
theorem Wc.scope {c : Code} (h : Wc P (Exit.noGoto Q) n c F H) : Wc P Q n (.scope c) F H := fun a w ho hw => wp_scope_straight (h a w ho hw)
theorem Wx.scope_n (h : Wx Q n .normal F H) : Wx (Exit.noGoto Q) n .normal F H := fun a w ho hw => h a w ho hw
theorem Wx.scope_r (h : Wx Q n .ret F H) : Wx (Exit.noGoto Q) n .ret F H := fun a w ho hw => h a w ho hw
theorem Wx.scope_o {id : Nat} (h : Wx Q n (.exit id) F H) : Wx (Exit.noGoto Q) n (.exit id) F H := fun a w ho hw => h a w ho hw
theorem Wx.block_n {id : Nat} (h : Wx Q n .normal F H) : Wx (Exit.inBlock id Q) n .normal F H := fun a w ho hw => h a w ho hw
theorem Wx.block_r {id : Nat} (h : Wx Q n .ret F H) : Wx (Exit.inBlock id Q) n .ret F H := fun a w ho hw => h a w ho hw
theorem Wx.block_e {id : Nat} (h : Wx Q n .normal F H) : Wx (Exit.inBlock id Q) n (.exit id) F H := fun a w ho hw => by
  show Exit.inBlock id Q (.exit id) a w
  simp only [Exit.inBlock, if_pos]
  exact h a w ho hw
theorem Wx.block_o {id id' : Nat} (hne : Nat.beq id' id = false) (h : Wx Q n (.exit id') F H) : Wx (Exit.inBlock id Q) n (.exit id') F H := fun a w ho hw => by
  show Exit.inBlock id Q (.exit id') a w
  have : ¬ id' = id := fun e => by rw [e, Nat.beq_refl] at hne; cases hne
  simp only [Exit.inBlock, if_neg this]
  exact h a w ho hw
/-- The end of a loop's round: a smaller ghost. -/
def LoopEnd {G : Type} (n : Nat) (FI : G → Fr) (HI : G → World → Prop) (m : G → Nat) (g : G) (a : Act) (w : World) : Prop := ∃ g', m g' < m g ∧ (FI g').ok n a ∧ HI g' w
theorem Wx.again {G : Type} {FI : G → Fr} {HI : G → World → Prop} {m : G → Nat} {g : G} (g' : G) (hm : m g' < m g) (hF : (FI g').sub F) (hH : ∀ w, H w → HI g' w) :
    Wx (Exit.then (LoopEnd n FI HI m g) Q) n .normal F H := fun a w ho hw => ⟨g', hm, Fr.ok_sub hF ho, hH w hw⟩
theorem Wc.loop {G : Type} {c : Code} (FI : G → Fr) (HI : G → World → Prop) (m : G → Nat) (g : G) (hF : (FI g).sub F) (hH : ∀ w, H w → HI g w)
    (round : ∀ g, Wc P (Exit.then (LoopEnd n FI HI m g) Q) n c (FI g) (HI g)) : Wc P Q n (.loop c) F H := by
  intro a w ho hw b k cs
  have key : ∀ N g a w, m g = N → (FI g).ok n a → HI g w →
      ∃ e a' w', Q e a' w' ∧ Arrives P (lone (b.at a (.code c :: .inLoop c :: k)) cs w) b k cs e a' w' := by
    intro N
    induction N using Nat.strongRecOn with
    | _ N ih =>
      intro g a w hn hF hI
      obtain ⟨e, a₁, w₁, hq, harr⟩ := round g a w hF hI b (.inLoop c :: k) cs
      cases e with
      | normal =>
        obtain ⟨g', hlt, hF₁, hI₁⟩ := hq
        obtain ⟨e₂, a₂, w₂, hq₂, harr₂⟩ := ih (m g') (hn ▸ hlt) g' a₁ w₁ rfl hF₁ hI₁
        exact ⟨e₂, a₂, w₂, hq₂, .of_steps (Steps.trans harr (.one step_inLoop)) harr₂⟩
      | exit id => exact ⟨_, a₁, w₁, hq, .pass (x := .inLoop c) rfl (fun _ _ => .inl (by simp)) harr⟩
      | goto l => exact ⟨_, a₁, w₁, hq, .pass (x := .inLoop c) rfl (fun _ _ => .inl (by simp)) harr⟩
      | ret => exact ⟨_, a₁, w₁, hq, .pass (x := .inLoop c) rfl (fun _ _ => .inl (by simp)) harr⟩
      | panic ch => exact ⟨_, a₁, w₁, hq, .pass (x := .inLoop c) rfl (fun _ _ => .inl (by simp)) harr⟩
      | outgrown => exact ⟨_, a₁, w₁, hq, .pass (x := .inLoop c) rfl (fun _ _ => .inl (by simp)) harr⟩
  obtain ⟨e, a', w', hq, harr⟩ := key _ g a w rfl (Fr.ok_sub hF ho) (hH w hw)
  exact ⟨e, a', w', hq, .of_steps (.one step_loop) harr⟩
/-- Where ways meet: what holds behind a piece of code, whatever way it took. -/
theorem Wc.cut {x y : Code} {G : Type} (FI : G → Fr) (HI : G → World → Prop)
    (first : Wc P (Exit.then (fun a w => ∃ g, (FI g).ok n a ∧ HI g w) Q) n x F H) (rest : ∀ g, Wc P Q n y (FI g) (HI g)) : Wc P Q n (.seq x y) F H := fun a w ho hw =>
  wp_seq (Code.wp_mono (fun e a w h => by
    cases e <;> first | exact h | (obtain ⟨g, h1, h2⟩ := h; exact rest g a w h1 h2)) (first a w ho hw))
theorem Wx.met {G : Type} {FI : G → Fr} {HI : G → World → Prop} (g : G) (hF : (FI g).sub F) (hH : ∀ w, H w → HI g w) : Wx (Exit.then (fun a w => ∃ g, (FI g).ok n a ∧ HI g w) Q) n .normal F H :=
  fun a w ho hw => ⟨g, Fr.ok_sub hF ho, hH w hw⟩

/-! ### the body -/
def startFr : Nat → List Value → Fr
  | _, [] => []
  | i, v :: l => (i, v) :: startFr (i + 1) l
theorem startFr_get : ∀ (l : List Value) (i j : Nat) (v : Value), (startFr i l).get j = some v → i ≤ j ∧ l[j - i]? = some v
  | [], _, _, _, h => by simp [startFr, Fr.get] at h
  | u :: l, i, j, v, h => by
    simp only [startFr, Fr.get] at h
    by_cases e : Nat.beq i j = true
    · rw [e] at h
      simp at h
      subst h
      obtain rfl := Nat.eq_of_beq_eq_true e
      exact ⟨Nat.le_refl _, by simp⟩
    · rw [Bool.eq_false_iff.2 e] at h
      obtain ⟨h1, h2⟩ := startFr_get l (i + 1) j v h
      refine ⟨by omega, ?_⟩
      rw [show j - i = (j - (i + 1)) + 1 by omega]
      exact h2
/-- A function's contract out of its body. -/
theorem calls_of_Wc {f : FuncId} {fn : Func} {c : Code} {args : List Value} {w : World} {R : Ending → World → Prop} (n : Nat) (hf : P.funcs[f]? = some fn) (hb : fn.body = some c)
    (hn : fn.ntmps = n) (hle : args.length ≤ n) (h : Wc P (bodyPost P fn R) n c (startFr 0 args) (fun w' => w' = w)) : Calls P f args.toArray w R := by
  refine calls_of_wp hf hb (h _ _ ⟨rfl, by simp [hn]; omega, fun i v hg => ?_⟩ rfl)
  obtain ⟨_, h2⟩ := startFr_get args 0 i v hg
  rw [Nat.sub_zero] at h2
  have hi : i < args.length := (List.getElem?_eq_some_iff.1 h2).1
  simp [Array.getElem?_append, hi]
  exact (List.getElem?_eq_some_iff.1 h2).2
theorem Wx.body_ret {fn : Func} {R : Ending → World → Prop} {t : Tmp} (v : Value) (hr : fn.results = #[.tmp t]) (hv : F.get t = some v) (h : ∀ w, H w → R (.returned v) w) : Wx (bodyPost P fn R) n .ret F H := fun a w ho hw => by
  refine ⟨ho.1, v, ?_, h w hw⟩
  have := Fr.ok_ev ho (x := .tmp t) hv
  rw [results_tmp hr]
  exact congrArg (Result.ok · w) this
theorem Wx.body_ret2 {fn : Func} {R : Ending → World → Prop} {t u : Tmp} (v1 v2 : Value) (hr : fn.results = #[.tmp t, .tmp u]) (h1 : F.get t = some v1) (h2 : F.get u = some v2) (h : ∀ w, H w → R (.returned (.tuple #[v1, v2])) w) : Wx (bodyPost P fn R) n .ret F H := fun a w ho hw => by
  refine ⟨ho.1, .tuple #[v1, v2], ?_, h w hw⟩
  have e1 : a.tmps.getD t undef = v1 := Fr.ok_ev ho (x := .tmp t) h1
  have e2 : a.tmps.getD u undef = v2 := Fr.ok_ev ho (x := .tmp u) h2
  rw [results_tmp2 hr, e1, e2]
theorem Wx.body_none {fn : Func} {R : Ending → World → Prop} {e : Exit} (he : e = .ret ∨ e = .normal) (hr : fn.results = #[]) (h : ∀ w, H w → R (.returned (.tuple #[])) w) : Wx (bodyPost P fn R) n e F H := fun a w ho hw => by
  rcases he with rfl | rfl <;> exact ⟨ho.1, .tuple #[], results_none hr _ _ _, h w hw⟩

/-! ### operations -/
/-- An operation that yields a value and leaves the world alone. -/
theorem Wl.val {md : Option (Bool × (Act → Prop))} {o : Oper} {rest : List Oper} {d : Nat} (v : Value) (hd : o.dst = some d) (hn : Nat.blt d n = true)
    (hr : ∀ ρ : Operand → Value, (∀ x y, F.ev x = some y → ρ x = y) → ∀ w, H w → (execOp ρ o).run P w = .ok (.value v) w)
    (h : Wl md P ops Q n rest ((d, v) :: F) H) (hg : wantedF ops F o.guard = some true := by rfl) : Wl md P ops Q n (o :: rest) F H := by
  cases md with
  | none =>
    refine fun a w ho hw => wpList_step fun K hK => ?_
    rw [wantedF_spec ho hg, if_pos rfl]
    unfold Oper.wp
    rw [hr a.eval (fun x y hx => Fr.ok_ev ho hx) w hw, Oper.upon_value, hd]
    exact hK _ _ (h _ _ (Fr.ok_put ho d v hn) hw)
  | some K0 => match K0 with
    | (false, K0) =>
      refine fun a ho => wpQuiet_step fun K hK => ?_
      rw [wantedF_spec ho hg, if_pos rfl]
      refine ⟨v, fun w hw => ?_, hd ▸ hK _ (h _ (Fr.ok_put ho d v hn))⟩
      unfold Oper.quietAt
      rw [hr a.eval (fun x y hx => Fr.ok_ev ho hx) w hw]
      exact ⟨rfl, rfl⟩
    | (true, K0) => exact fun a ho => ⟨v, .inl ⟨wantedF_spec ho hg, fun w hw => hr a.eval (fun x y hx => Fr.ok_ev ho hx) w hw⟩, hd ▸ h _ (Fr.ok_put ho d v hn)⟩
/-- A call that yields a value and leaves a world of the class. -/
theorem Wl.callq {md : Option (Bool × (Act → Prop))} {o : Oper} {rest : List Oper} {d : Nat} {f : FuncId} {args : Array Value} (v : Value) (hd : o.dst = some d) (hn : Nat.blt d n = true)
    (hr : ∀ ρ : Operand → Value, (∀ x y, F.ev x = some y → ρ x = y) → ∀ w, H w → (execOp ρ o).run P w = .ok (.enter f args) w)
    (hc : ∀ w, H w → Calls P f args w fun e w' => e = .returned v ∧ H w')
    (h : Wl md P ops Q n rest ((d, v) :: F) H) (hg : wantedF ops F o.guard = some true := by rfl) (hmd : callsMd md = true := by rfl) : Wl md P ops Q n (o :: rest) F H := by
  cases md with
  | none =>
    refine fun a w ho hw => wpList_step fun K hK => ?_
    rw [wantedF_spec ho hg, if_pos rfl]
    unfold Oper.wp
    rw [hr a.eval (fun x y hx => Fr.ok_ev ho hx) w hw, Oper.upon_enter, hd]
    refine (hc w hw).mono ?_
    rintro e w' ⟨rfl, h2⟩
    exact hK _ _ (h _ _ (Fr.ok_put ho d v hn) h2)
  | some K0 => match K0 with
    | (true, K0) => exact absurd hmd (by simp [callsMd])
    | (false, K0) =>
      refine fun a ho => wpQuiet_step fun K hK => ?_
      rw [wantedF_spec ho hg, if_pos rfl]
      refine ⟨v, fun w hw => ?_, hd ▸ hK _ (h _ (Fr.ok_put ho d v hn))⟩
      unfold Oper.quietAt
      rw [hr a.eval (fun x y hx => Fr.ok_ev ho hx) w hw]
      exact ⟨rfl, hc w hw⟩
/-- An operation that yields a value and leaves another world. -/
theorem Wl.valw {o : Oper} {rest : List Oper} {d : Nat} {G : Type} (v : G → Value) (H' : G → World → Prop) (hg : o.guard = none) (hd : o.dst = some d) (hn : Nat.blt d n = true)
    (hr : ∀ ρ : Operand → Value, (∀ x y, F.ev x = some y → ρ x = y) → ∀ w, H w → ∃ g w', (execOp ρ o).run P w = .ok (.value (v g)) w' ∧ H' g w')
    (h : ∀ g, Wl none P ops Q n rest ((d, v g) :: F) (H' g)) : Wl none P ops Q n (o :: rest) F H := fun a w ho hw => by
  refine wpList_plain hg fun K hK => ?_
  unfold Oper.wp
  obtain ⟨g, w', h1, h2⟩ := hr a.eval (fun x y hx => Fr.ok_ev ho hx) w hw
  rw [h1, Oper.upon_value, hd]
  exact hK _ _ (h g _ _ (Fr.ok_put ho d (v g) hn) h2)
/-- An operation that yields nothing and leaves another world. -/
theorem Wl.act {o : Oper} {rest : List Oper} {G : Type} (H' : G → World → Prop) (hg : o.guard = none) (hd : o.dst = none)
    (hr : ∀ ρ : Operand → Value, (∀ x y, F.ev x = some y → ρ x = y) → ∀ w, H w → ∃ g w', (execOp ρ o).run P w = .ok .skip w' ∧ H' g w')
    (h : ∀ g, Wl none P ops Q n rest F (H' g)) : Wl none P ops Q n (o :: rest) F H := fun a w ho hw => by
  refine wpList_plain hg fun K hK => ?_
  unfold Oper.wp
  obtain ⟨g, w', h1, h2⟩ := hr a.eval (fun x y hx => Fr.ok_ev ho hx) w hw
  rw [h1, Oper.upon_skip, hd]
  exact hK _ _ (h g _ _ (Fr.ok_put_none ho undef) h2)
/-- A call. -/
theorem Wl.call {o : Oper} {rest : List Oper} {d : Nat} {G : Type} {f : FuncId} {args : Array Value} (v : G → Value) (H' : G → World → Prop) (hg : o.guard = none) (hd : o.dst = some d) (hn : Nat.blt d n = true)
    (hr : ∀ ρ : Operand → Value, (∀ x y, F.ev x = some y → ρ x = y) → ∀ w, H w → (execOp ρ o).run P w = .ok (.enter f args) w)
    (hc : ∀ w, H w → Calls P f args w fun e w' => ∃ g, e = .returned (v g) ∧ H' g w')
    (h : ∀ g, Wl none P ops Q n rest ((d, v g) :: F) (H' g)) : Wl none P ops Q n (o :: rest) F H := fun a w ho hw => by
  refine wpList_plain hg fun K hK => ?_
  unfold Oper.wp
  rw [hr a.eval (fun x y hx => Fr.ok_ev ho hx) w hw, Oper.upon_enter, hd]
  refine (hc w hw).mono ?_
  rintro e w' ⟨g, rfl, h2⟩
  exact hK _ _ (h g _ _ (Fr.ok_put ho d (v g) hn) h2)
end
end Go.Proofs.YtkffjbijamfnoaaGreat
