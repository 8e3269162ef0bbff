/-
  The logic's operations.
-/
import Derived.Test.YtkffjbijamfnoaaGreatHlHeap
import Derived.Laws.Tables
import Derived.Laws.Cells
import Derived.Laws.CopyRow
import Derived.Laws.StructEq
set_option linter.unusedVariables false
set_option linter.unusedSimpArgs false
namespace Go.Proofs.YtkffjbijamfnoaaGreat
open Go.RowKit

theorem Addr.add_zero' (a : Addr) : a.add 0 = a := by simp [Addr.add]
theorem Addr.add_add' (a : Addr) (i j : Nat) : (a.add i).add j = a.add (i + j) := by
  unfold Addr.add
  by_cases h1 : i = 0 <;> by_cases h2 : j = 0 <;> simp [h1, h2, Nat.add_assoc]
theorem Addr.add_block (a : Addr) (i : Nat) : (a.add i).block = a.block := by unfold Addr.add; split <;> rfl
/-- The cells from an address on. -/
def Cells (w : World) (a : Addr) (cs : List Value) : Prop := ∀ i u, cs[i]? = some u → w.cell? (a.add i) = some u
theorem Cells.part {w : World} {a : Addr} {cs : List Value} (h : Cells w a cs) (o k : Nat) : Cells w (a.add o) ((cs.drop o).take k) := fun i u hu => by
  rw [Addr.add_add']
  refine h _ _ ?_
  rw [List.getElem?_take] at hu
  split at hu
  · rw [List.getElem?_drop] at hu
    exact hu
  · cases hu
theorem Blk.box_cells {w : World} {b : Nat} {cs : List Value} {t : TypeId} (h : (Blk.box b cs t).holds w) : Cells w ⟨b, 0, none⟩ cs := fun i u hu => by
  have e : (⟨b, 0, none⟩ : Addr).add i = ⟨b, i, none⟩ := by unfold Addr.add; split <;> simp_all
  rw [e, cell_of_row w b i cs.toArray t (0, 0) h]
  simpa using hu

/-- A type's zero value, cells, bytes; is it a struct or an array? -/
structure TyF (P : Program) (t : TypeId) (ag : Bool) (z : Value) (sz by_ : Nat) : Prop where
  info : (P.info? t).map (fun i => (i.zero, i.size, i.bytes)) = some (some z, sz, by_)
  agg : ∀ w, (isAgg t).run P w = .ok ag w
theorem TyF.of {P : Program} {t : TypeId} {z : Value} {sz by_ : Nat} {d : TypeDesc} (h : (P.info? t).map (fun i => (i.zero, i.size, i.bytes)) = some (some z, sz, by_)) (hu : P.underlying t = some d) :
    TyF P t (match d with | .struct _ | .array _ _ => true | _ => false) z sz by_ :=
  ⟨h, fun w => by cases d <;> simp [isAgg, run_underlying hu]⟩
section
variable {P : Program}
theorem TyF.sizeOf {t : TypeId} {ag : Bool} {z : Value} {sz by_ : Nat} (h : TyF P t ag z sz by_) (w : World) : (sizeOf t).run P w = .ok sz w := by
  obtain ⟨i, hi, he⟩ := Option.map_eq_some_iff.1 h.info
  simp only [Prod.mk.injEq] at he
  simp [Go.sizeOf, typeInfo, hi, he.2.1]
theorem TyF.zero {t : TypeId} {ag : Bool} {z : Value} {sz by_ : Nat} (h : TyF P t ag z sz by_) (w : World) : (zeroValue t).run P w = .ok z w := by
  obtain ⟨i, hi, he⟩ := Option.map_eq_some_iff.1 h.info
  simp only [Prod.mk.injEq] at he
  simp [zeroValue, typeInfo, hi, he.1]
theorem run_loadVar_one {t : TypeId} {z : Value} {sz by_ : Nat} (h : TyF P t false z sz by_) {w : World} {a : Addr} {u : Value} (hc : w.cell? a = some u) : (loadVar t a).run P w = .ok u w := by
  simp only [loadVar, Sem.run_bind, h.agg w, Result.andThen_ok]
  simpa [go_sem] using (run_loadCells_list (P := P) w a [u] (fun j v hv => by
    cases j with
    | zero => rw [Addr.add_zero']; simpa [hc] using hv
    | succ j => simp at hv)) |> fun _ => (by simp [load, Sem.run, hc] : (load a).run P w = .ok u w)
theorem run_loadVar_agg {t : TypeId} {z : Value} {sz by_ : Nat} (h : TyF P t true z sz by_) {w : World} {a : Addr} {cs : List Value} (hl : cs.length = sz) (hc : Cells w a cs) : (loadVar t a).run P w = .ok (.agg cs.toArray) w := by
  have := run_loadCells_list (P := P) w a cs hc
  rw [hl] at this
  simp [loadVar, h.agg w, h.sizeOf w, this]
end

section
variable {md : Option (Bool × (Act → Prop))} {g : Option (Nat × Bool)} {P : Program} {ops : Array Oper} {Q : Exit → Act → World → Prop} {n : Nat} {F : Fr} {H : World → Prop} {rest : List Oper} {d ty : Nat} {pos : String} {af : Array Edge}
theorem Wl.move {x : Operand} {v : Value} (hx : F.ev x = some v) (hn : Nat.blt d n = true) (h : Wl md P ops Q n rest ((d, v) :: F) H) (hg : wantedF ops F g = some true := by rfl) :
    Wl md P ops Q n ({ dst := some d, op := .move x, type := ty, pos := pos, after := af, guard := g } :: rest) F H :=
  Wl.val v rfl hn (fun ρ hρ w hw => by simp [execOp, hρ _ _ hx]) h hg
theorem Wl.assign {x : Operand} {v : Value} (hx : F.ev x = some v) (hn : Nat.blt d n = true) (h : Wl md P ops Q n rest ((d, v) :: F) H) (hg : wantedF ops F g = some true := by rfl) :
    Wl md P ops Q n ({ dst := some d, op := .assign x, type := ty, pos := pos, after := af, guard := g } :: rest) F H :=
  Wl.val v rfl hn (fun ρ hρ w hw => by simp [execOp, hρ _ _ hx]) h hg
/-- An operator, by what it gives. -/
theorem Wl.bin {op : BinOp} {xt yt : TypeId} {x y : Operand} {u v : Value} (r : Value) (hx : F.ev x = some u) (hy : F.ev y = some v) (hn : Nat.blt d n = true)
    (hq : ∀ w, (eqGuard op xt x y u v).run P w = .ok () w) (hr : ∀ w, H w → (binOp op xt u v).run P w = .ok r w) (h : Wl md P ops Q n rest ((d, r) :: F) H) (hg : wantedF ops F g = some true := by rfl) :
    Wl md P ops Q n ({ dst := some d, op := .binOp op xt x y yt, type := ty, pos := pos, after := af, guard := g } :: rest) F H :=
  Wl.val r rfl hn (fun ρ hρ w hw => by simp [execOp, hρ _ _ hx, hρ _ _ hy, hq w, hr w hw]) h hg
theorem eqGuard_int (op : BinOp) (xt : TypeId) (x y : Operand) (k : IntKind) (a b : Int) (w : World) : (eqGuard op xt x y (.int k a) (.int k b)).run P w = .ok () w := by cases op <;> simp [eqGuard]
theorem Wl.lss {xt yt : TypeId} {x y : Operand} {k : IntKind} {a b : Int} (hx : F.ev x = some (.int k a)) (hy : F.ev y = some (.int k b)) (hn : Nat.blt d n = true) (h : Wl md P ops Q n rest ((d, .bool (decide (a < b))) :: F) H) (hg : wantedF ops F g = some true := by rfl) :
    Wl md P ops Q n ({ dst := some d, op := .binOp .lss xt x y yt, type := ty, pos := pos, after := af, guard := g } :: rest) F H :=
  Wl.bin _ hx hy hn (fun w => eqGuard_int _ _ _ _ _ _ _ w) (fun w _ => by simp [binOp, Op.intCmp, go_sem]) h hg
theorem Wl.leq {xt yt : TypeId} {x y : Operand} {k : IntKind} {a b : Int} (hx : F.ev x = some (.int k a)) (hy : F.ev y = some (.int k b)) (hn : Nat.blt d n = true) (h : Wl md P ops Q n rest ((d, .bool (decide (a ≤ b))) :: F) H) (hg : wantedF ops F g = some true := by rfl) :
    Wl md P ops Q n ({ dst := some d, op := .binOp .leq xt x y yt, type := ty, pos := pos, after := af, guard := g } :: rest) F H :=
  Wl.bin _ hx hy hn (fun w => eqGuard_int _ _ _ _ _ _ _ w) (fun w _ => by simp [binOp, Op.intCmp, go_sem]) h hg
theorem Wl.gtr {xt yt : TypeId} {x y : Operand} {k : IntKind} {a b : Int} (hx : F.ev x = some (.int k a)) (hy : F.ev y = some (.int k b)) (hn : Nat.blt d n = true) (h : Wl md P ops Q n rest ((d, .bool (decide (b < a))) :: F) H) (hg : wantedF ops F g = some true := by rfl) :
    Wl md P ops Q n ({ dst := some d, op := .binOp .gtr xt x y yt, type := ty, pos := pos, after := af, guard := g } :: rest) F H :=
  Wl.bin _ hx hy hn (fun w => eqGuard_int _ _ _ _ _ _ _ w) (fun w _ => by simp [binOp, Op.intCmp, go_sem]) h hg
theorem Wl.geq {xt yt : TypeId} {x y : Operand} {k : IntKind} {a b : Int} (hx : F.ev x = some (.int k a)) (hy : F.ev y = some (.int k b)) (hn : Nat.blt d n = true) (h : Wl md P ops Q n rest ((d, .bool (decide (b ≤ a))) :: F) H) (hg : wantedF ops F g = some true := by rfl) :
    Wl md P ops Q n ({ dst := some d, op := .binOp .geq xt x y yt, type := ty, pos := pos, after := af, guard := g } :: rest) F H :=
  Wl.bin _ hx hy hn (fun w => eqGuard_int _ _ _ _ _ _ _ w) (fun w _ => by simp [binOp, Op.intCmp, go_sem]) h hg
theorem Wl.eql {xt yt : TypeId} {x y : Operand} {k : IntKind} {a b : Int} (hx : F.ev x = some (.int k a)) (hy : F.ev y = some (.int k b)) (hn : Nat.blt d n = true) (h : Wl md P ops Q n rest ((d, .bool (decide (a = b))) :: F) H) (hg : wantedF ops F g = some true := by rfl) :
    Wl md P ops Q n ({ dst := some d, op := .binOp .eql xt x y yt, type := ty, pos := pos, after := af, guard := g } :: rest) F H :=
  Wl.bin _ hx hy hn (fun w => eqGuard_int _ _ _ _ _ _ _ w) (fun w _ => by simp [binOp, Op.intCmp, go_sem]; rfl) h hg
theorem Wl.neq {xt yt : TypeId} {x y : Operand} {k : IntKind} {a b : Int} (hx : F.ev x = some (.int k a)) (hy : F.ev y = some (.int k b)) (hn : Nat.blt d n = true) (h : Wl md P ops Q n rest ((d, .bool (decide (¬ a = b))) :: F) H) (hg : wantedF ops F g = some true := by rfl) :
    Wl md P ops Q n ({ dst := some d, op := .binOp .neq xt x y yt, type := ty, pos := pos, after := af, guard := g } :: rest) F H :=
  Wl.bin _ hx hy hn (fun w => eqGuard_int _ _ _ _ _ _ _ w) (fun w _ => by simp [binOp, Op.intCmp, go_sem]; rfl) h hg
theorem Wl.addw {xt yt : TypeId} {x y : Operand} {k : IntKind} {a b : Int} (hx : F.ev x = some (.int k a)) (hy : F.ev y = some (.int k b)) (hn : Nat.blt d n = true) (h : Wl md P ops Q n rest ((d, .int k (k.wrap (a + b))) :: F) H) (hg : wantedF ops F g = some true := by rfl) :
    Wl md P ops Q n ({ dst := some d, op := .binOp .add xt x y yt, type := ty, pos := pos, after := af, guard := g } :: rest) F H :=
  Wl.bin _ hx hy hn (fun w => eqGuard_int _ _ _ _ _ _ _ w) (fun w _ => by simp [binOp, Op.intArith]) h hg
theorem Wl.subw {xt yt : TypeId} {x y : Operand} {k : IntKind} {a b : Int} (hx : F.ev x = some (.int k a)) (hy : F.ev y = some (.int k b)) (hn : Nat.blt d n = true) (h : Wl md P ops Q n rest ((d, .int k (k.wrap (a - b))) :: F) H) (hg : wantedF ops F g = some true := by rfl) :
    Wl md P ops Q n ({ dst := some d, op := .binOp .sub xt x y yt, type := ty, pos := pos, after := af, guard := g } :: rest) F H :=
  Wl.bin _ hx hy hn (fun w => eqGuard_int _ _ _ _ _ _ _ w) (fun w _ => by simp [binOp, Op.intArith]) h hg
theorem Wl.mulw {xt yt : TypeId} {x y : Operand} {k : IntKind} {a b : Int} (hx : F.ev x = some (.int k a)) (hy : F.ev y = some (.int k b)) (hn : Nat.blt d n = true) (h : Wl md P ops Q n rest ((d, .int k (k.wrap (a * b))) :: F) H) (hg : wantedF ops F g = some true := by rfl) :
    Wl md P ops Q n ({ dst := some d, op := .binOp .mul xt x y yt, type := ty, pos := pos, after := af, guard := g } :: rest) F H :=
  Wl.bin _ hx hy hn (fun w => eqGuard_int _ _ _ _ _ _ _ w) (fun w _ => by simp [binOp, Op.intArith]) h hg
theorem i64_wrap_in {a : Int} (h : -9223372036854775808 ≤ a ∧ a ≤ 9223372036854775807) : IntKind.i64.wrap a = a := IntWalk.i64_in a h
theorem Wl.add {xt yt : TypeId} {x y : Operand} {a b : Int} (hx : F.ev x = some (.int .i64 a)) (hy : F.ev y = some (.int .i64 b)) (hn : Nat.blt d n = true) (hb : -9223372036854775808 ≤ a + b ∧ a + b ≤ 9223372036854775807)
    (h : Wl md P ops Q n rest ((d, .int .i64 (a + b)) :: F) H) (hg : wantedF ops F g = some true := by rfl) :
    Wl md P ops Q n ({ dst := some d, op := .binOp .add xt x y yt, type := ty, pos := pos, after := af, guard := g } :: rest) F H :=
  Wl.addw hx hy hn (by rw [i64_wrap_in hb]; exact h) hg
theorem Wl.sub {xt yt : TypeId} {x y : Operand} {a b : Int} (hx : F.ev x = some (.int .i64 a)) (hy : F.ev y = some (.int .i64 b)) (hn : Nat.blt d n = true) (hb : -9223372036854775808 ≤ a - b ∧ a - b ≤ 9223372036854775807)
    (h : Wl md P ops Q n rest ((d, .int .i64 (a - b)) :: F) H) (hg : wantedF ops F g = some true := by rfl) :
    Wl md P ops Q n ({ dst := some d, op := .binOp .sub xt x y yt, type := ty, pos := pos, after := af, guard := g } :: rest) F H :=
  Wl.subw hx hy hn (by rw [i64_wrap_in hb]; exact h) hg
theorem Wl.rem {xt yt : TypeId} {x y : Operand} {k : IntKind} {a b : Int} (hx : F.ev x = some (.int k a)) (hy : F.ev y = some (.int k b)) (hn : Nat.blt d n = true) (hb : 0 < b) (h : Wl md P ops Q n rest ((d, .int k (a.tmod b)) :: F) H) (hg : wantedF ops F g = some true := by rfl) :
    Wl md P ops Q n ({ dst := some d, op := .binOp .rem xt x y yt, type := ty, pos := pos, after := af, guard := g } :: rest) F H :=
  Wl.bin _ hx hy hn (fun w => eqGuard_int _ _ _ _ _ _ _ w) (fun w _ => by simp [binOp, Op.intDiv, show ¬ b = 0 by omega]) h hg
theorem Wl.quo {xt yt : TypeId} {x y : Operand} {k : IntKind} {a b : Int} (hx : F.ev x = some (.int k a)) (hy : F.ev y = some (.int k b)) (hn : Nat.blt d n = true) (hb : 0 < b) (h : Wl md P ops Q n rest ((d, .int k (k.wrap (a.tdiv b))) :: F) H) (hg : wantedF ops F g = some true := by rfl) :
    Wl md P ops Q n ({ dst := some d, op := .binOp .quo xt x y yt, type := ty, pos := pos, after := af, guard := g } :: rest) F H :=
  Wl.bin _ hx hy hn (fun w => eqGuard_int _ _ _ _ _ _ _ w) (fun w _ => by simp [binOp, Op.intDiv, show ¬ b = 0 by omega]) h hg
theorem Wl.bitop {op : BinOp} {xt yt : TypeId} {x y : Operand} {k : IntKind} {a b : Int} (hx : F.ev x = some (.int k a)) (hy : F.ev y = some (.int k b)) (hn : Nat.blt d n = true) (ho : op = .and ∨ op = .or ∨ op = .xor) (h : Wl md P ops Q n rest ((d, .int k (Go.bits op k a b)) :: F) H) (hg : wantedF ops F g = some true := by rfl) :
    Wl md P ops Q n ({ dst := some d, op := .binOp op xt x y yt, type := ty, pos := pos, after := af, guard := g } :: rest) F H :=
  Wl.bin _ hx hy hn (fun w => eqGuard_int _ _ _ _ _ _ _ w) (fun w _ => by rcases ho with rfl | rfl | rfl <;> (simp only [binOp, ne_eq, not_true_eq_false, if_false]; rfl)) h hg
/-- '==' of structs, by a fact on the type. -/
structure EqF {α : Type} [DecidableEq α] (P : Program) (t : TypeId) (enc : α → List Value) : Prop where
  eq : ∀ (x y : α) (w : World), (Op.equalIn 10000 t (.agg (enc x).toArray) (.agg (enc y).toArray)).run P w = .ok (decide (x = y)) w
  guard : P.eqGuardType P.depth t = false
theorem eqGuard_agg {t : TypeId} (hp : P.eqGuardType P.depth t = false) (op : BinOp) (x y : Operand) (xs ys : Array Value) (w : World) : (eqGuard op t x y (.agg xs) (.agg ys)).run P w = .ok () w := by
  cases op <;> simp [eqGuard, hp, program, Sem.run]
theorem Wl.eqls {α : Type} [DecidableEq α] {enc : α → List Value} {xt yt : TypeId} {x y : Operand} (a b : α) (hE : EqF P xt enc) (hx : F.ev x = some (.agg (enc a).toArray)) (hy : F.ev y = some (.agg (enc b).toArray)) (hn : Nat.blt d n = true) (h : Wl md P ops Q n rest ((d, .bool (decide (a = b))) :: F) H) (hg : wantedF ops F g = some true := by rfl) :
    Wl md P ops Q n ({ dst := some d, op := .binOp .eql xt x y yt, type := ty, pos := pos, after := af, guard := g } :: rest) F H :=
  Wl.bin _ hx hy hn (fun w => eqGuard_agg hE.guard _ _ _ _ _ w) (fun w _ => by rw [run_eql_struct, hE.eq]; rfl) h hg
theorem Wl.neqs {α : Type} [DecidableEq α] {enc : α → List Value} {xt yt : TypeId} {x y : Operand} (a b : α) (hE : EqF P xt enc) (hx : F.ev x = some (.agg (enc a).toArray)) (hy : F.ev y = some (.agg (enc b).toArray)) (hn : Nat.blt d n = true) (h : Wl md P ops Q n rest ((d, .bool (decide (¬ a = b))) :: F) H) (hg : wantedF ops F g = some true := by rfl) :
    Wl md P ops Q n ({ dst := some d, op := .binOp .neq xt x y yt, type := ty, pos := pos, after := af, guard := g } :: rest) F H :=
  Wl.bin _ hx hy hn (fun w => eqGuard_agg hE.guard _ _ _ _ _ w) (fun w _ => by rw [run_neq_struct, hE.eq]; simp [Result.andThen]) h hg
/-- A builtin that turns nothing, by what it gives. -/
theorem Wl.builtin1 {b : Builtin} {x : Operand} {xt : TypeId} {u : Value} (r : Value) (hx : F.ev x = some u) (hn : Nat.blt d n = true) (hr : ∀ (c : Array Bool) (w : World), H w → (builtin b #[xt] ty c #[u]).run P w = .ok (.value r) w)
    (h : Wl md P ops Q n rest ((d, r) :: F) H) (hg : wantedF ops F g = some true := by rfl) :
    Wl md P ops Q n ({ dst := some d, op := .call { callee := .builtin b, args := #[x], argTypes := #[xt] }, type := ty, pos := pos, after := af, guard := g } :: rest) F H :=
  Wl.val r rfl hn (fun ρ hρ w hw => by simp [execOp, resolve, invoke, hρ _ _ hx, hr _ w hw]) h hg
theorem Wl.builtin2 {b : Builtin} {x y : Operand} {xt yt : TypeId} {u v : Value} (r : Value) (hx : F.ev x = some u) (hy : F.ev y = some v) (hn : Nat.blt d n = true) (hr : ∀ (c : Array Bool) (w : World), H w → (builtin b #[xt, yt] ty c #[u, v]).run P w = .ok (.value r) w)
    (h : Wl md P ops Q n rest ((d, r) :: F) H) (hg : wantedF ops F g = some true := by rfl) :
    Wl md P ops Q n ({ dst := some d, op := .call { callee := .builtin b, args := #[x, y], argTypes := #[xt, yt] }, type := ty, pos := pos, after := af, guard := g } :: rest) F H :=
  Wl.val r rfl hn (fun ρ hρ w hw => by simp [execOp, resolve, invoke, hρ _ _ hx, hρ _ _ hy, hr _ w hw]) h hg
theorem Wl.len {x : Operand} {xt e : TypeId} {A : Option Addr} {k c : Nat} (ht : P.underlying xt = some (.slice e)) (hx : F.ev x = some (.slice A k c)) (hn : Nat.blt d n = true) (h : Wl md P ops Q n rest ((d, .int .i64 k) :: F) H) (hg : wantedF ops F g = some true := by rfl) :
    Wl md P ops Q n ({ dst := some d, op := .call { callee := .builtin .len, args := #[x], argTypes := #[xt] }, type := ty, pos := pos, after := af, guard := g } :: rest) F H :=
  Wl.builtin1 _ hx hn (fun c w _ => by simp [builtin, Builtin.len_, run_underlying ht, goInt]) h hg
theorem Wl.maxi {x y : Operand} {xt yt : TypeId} {a b : Int} (hx : F.ev x = some (.int .i64 a)) (hy : F.ev y = some (.int .i64 b)) (hn : Nat.blt d n = true) (h : Wl md P ops Q n rest ((d, .int .i64 (max a b)) :: F) H) (hg : wantedF ops F g = some true := by rfl) :
    Wl md P ops Q n ({ dst := some d, op := .call { callee := .builtin .max, args := #[x, y], argTypes := #[xt, yt] }, type := ty, pos := pos, after := af, guard := g } :: rest) F H :=
  Wl.builtin2 _ hx hy hn (fun c w _ => by simp only [builtin, Sem.run_bind, run_max_int2, Result.andThen_ok, Sem.run_pure]; rw [show (if a < b then b else a) = max a b by omega]) h hg
theorem Wl.mini {x y : Operand} {xt yt : TypeId} {a b : Int} (hx : F.ev x = some (.int .i64 a)) (hy : F.ev y = some (.int .i64 b)) (hn : Nat.blt d n = true) (h : Wl md P ops Q n rest ((d, .int .i64 (min a b)) :: F) H) (hg : wantedF ops F g = some true := by rfl) :
    Wl md P ops Q n ({ dst := some d, op := .call { callee := .builtin .min, args := #[x, y], argTypes := #[xt, yt] }, type := ty, pos := pos, after := af, guard := g } :: rest) F H :=
  Wl.builtin2 _ hx hy hn (fun c w _ => by simp only [builtin, Sem.run_bind, run_min_int2, Result.andThen_ok, Sem.run_pure]; rw [show (if b < a then b else a) = min a b by omega]) h hg
/-- x of a bool. -/
theorem Wl.not {xt : TypeId} {x : Operand} {b : Bool} (hx : F.ev x = some (.bool b)) (hn : Nat.blt d n = true) (h : Wl md P ops Q n rest ((d, .bool (!b)) :: F) H) (hg : wantedF ops F g = some true := by rfl) :
    Wl md P ops Q n ({ dst := some d, op := .unOp .not xt x, type := ty, pos := pos, after := af, guard := g } :: rest) F H :=
  Wl.val _ rfl hn (fun ρ hρ w hw => by simp [execOp, Op.unary, hρ _ _ hx]) h hg
theorem Wl.pick_t {c x y : Operand} {u : Value} (hc : F.ev c = some (.bool true)) (hx : F.ev x = some u) (hn : Nat.blt d n = true) (h : Wl md P ops Q n rest ((d, u) :: F) H) (hg : wantedF ops F g = some true := by rfl) :
    Wl md P ops Q n ({ dst := some d, op := .pick c x y, type := ty, pos := pos, after := af, guard := g } :: rest) F H :=
  Wl.val _ rfl hn (fun ρ hρ w hw => by simp [execOp, asBool, hρ _ _ hc, hρ _ _ hx]) h hg
theorem Wl.pick_f {c x y : Operand} {u : Value} (hc : F.ev c = some (.bool false)) (hx : F.ev y = some u) (hn : Nat.blt d n = true) (h : Wl md P ops Q n rest ((d, u) :: F) H) (hg : wantedF ops F g = some true := by rfl) :
    Wl md P ops Q n ({ dst := some d, op := .pick c x y, type := ty, pos := pos, after := af, guard := g } :: rest) F H :=
  Wl.val _ rfl hn (fun ρ hρ w hw => by simp [execOp, asBool, hρ _ _ hc, hρ _ _ hx]) h hg
theorem Wl.extract {x : Operand} {vs : List Value} {i : Nat} {u : Value} (hx : F.ev x = some (.tuple vs.toArray)) (hu : vs[i]? = some u) (hn : Nat.blt d n = true) (h : Wl md P ops Q n rest ((d, u) :: F) H) (hg : wantedF ops F g = some true := by rfl) :
    Wl md P ops Q n ({ dst := some d, op := .extract x i, type := ty, pos := pos, after := af, guard := g } :: rest) F H :=
  Wl.val u rfl hn (fun ρ hρ w hw => by simp [execOp, Instr.extract, hρ _ _ hx, hu]) h hg
/-! ### addresses -/
theorem Wl.idx {xt e : TypeId} {x y : Operand} {kd : IntKind} {ad : Addr} {k c j sz by_ : Nat} {ag : Bool} {z : Value} (ht : P.underlying xt = some (.slice e)) (hT : TyF P e ag z sz by_) (hx : F.ev x = some (.slice (some ad) k c)) (hy : F.ev y = some (.int kd (j : Nat)))
    (hn : Nat.blt d n = true) (hj : j < k) (h : Wl md P ops Q n rest ((d, .pointer (some (ad.add (j * sz)))) :: F) H) (hg : wantedF ops F g = some true := by rfl) :
    Wl md P ops Q n ({ dst := some d, op := .indexAddr xt x y, type := ty, pos := pos, after := af, guard := g } :: rest) F H :=
  Wl.val _ rfl hn (fun ρ hρ w hw => by
    have h0 : (0 : Int) ≤ (j : Int) := by omega
    have h1 : (j : Int) < (k : Int) := by omega
    simp [execOp, Instr.indexAt, asIntOf, hρ _ _ hx, hρ _ _ hy, run_underlying ht, hT.sizeOf w]
    intro hh
    omega) h hg
/-- Where a field lies. -/
def FldF (P : Program) (s : TypeId) (f o : Nat) : Prop := ∀ (w : World) (a : Addr), (Instr.fieldAt s (.pointer (some a)) f).run P w = .ok (.pointer (some (a.add o))) w
theorem Wl.fld {s : TypeId} {x : Operand} {f o : Nat} {p : Addr} (q : Addr) (hf : FldF P s f o) (hx : F.ev x = some (.pointer (some p))) (hn : Nat.blt d n = true) (hq : p.add o = q)
    (h : Wl md P ops Q n rest ((d, .pointer (some q)) :: F) H) (hg : wantedF ops F g = some true := by rfl) :
    Wl md P ops Q n ({ dst := some d, op := .fieldAddr s x f, type := ty, pos := pos, after := af, guard := g } :: rest) F H :=
  Wl.val _ rfl hn (fun ρ hρ w hw => by simp [execOp, hρ _ _ hx, hf w p, hq]) h hg
/-! ### loads -/
theorem Wl.load_at {t : TypeId} {x : Operand} {p : Addr} {u z : Value} {sz by_ : Nat} (hT : TyF P t false z sz by_) (hx : F.ev x = some (.pointer (some p))) (hn : Nat.blt d n = true) (hc : ∀ w, H w → w.cell? p = some u)
    (h : Wl md P ops Q n rest ((d, u) :: F) H) (hg : wantedF ops F g = some true := by rfl) :
    Wl md P ops Q n ({ dst := some d, op := .load t x, type := ty, pos := pos, after := af, guard := g } :: rest) F H :=
  Wl.val u rfl hn (fun ρ hρ w hw => by simp [execOp, Instr.loadAt, Instr.sureAddr, hρ _ _ hx, run_loadVar_one hT (hc w hw)]) h hg
theorem Wl.loads_at {t : TypeId} {x : Operand} {p : Addr} {cs : List Value} {z : Value} {sz by_ : Nat} (hT : TyF P t true z sz by_) (hx : F.ev x = some (.pointer (some p))) (hn : Nat.blt d n = true) (hl : cs.length = sz) (hc : ∀ w, H w → Cells w p cs)
    (h : Wl md P ops Q n rest ((d, .agg cs.toArray) :: F) H) (hg : wantedF ops F g = some true := by rfl) :
    Wl md P ops Q n ({ dst := some d, op := .load t x, type := ty, pos := pos, after := af, guard := g } :: rest) F H :=
  Wl.val _ rfl hn (fun ρ hρ w hw => by simp [execOp, Instr.loadAt, Instr.sureAddr, hρ _ _ hx, run_loadVar_agg hT hl (hc w hw)]) h hg
section
variable {w0 : World} {m0 m : Nat → Prop} {L : List Blk} {R : World → Prop}
/-- A scalar out of the i-th block, its j-th cell. -/
theorem Wl.loadb (i j : Nat) {t t' : TypeId} {x : Operand} {b : Nat} {cs : List Value} {u z : Value} {sz by_ : Nat} (hT : TyF P t false z sz by_) (hx : F.ev x = some (.pointer (some ⟨b, j, none⟩))) (hn : Nat.blt d n = true) (hL : L[i]? = some (.box b cs t')) (hu : cs[j]? = some u)
    (h : Wl md P ops Q n rest ((d, u) :: F) (St w0 m0 m L R)) (hg : wantedF ops F g = some true := by rfl) :
    Wl md P ops Q n ({ dst := some d, op := .load t x, type := ty, pos := pos, after := af, guard := g } :: rest) F (St w0 m0 m L R) :=
  Wl.load_at hT hx hn (fun w hw => by
    have := Blk.box_cells (hw.get hL) j u hu
    rwa [show (⟨b, 0, none⟩ : Addr).add j = ⟨b, j, none⟩ by unfold Addr.add; split <;> simp_all] at this) h hg
/-- A struct out of the i-th block, from its j-th cell on. -/
theorem Wl.loadbs (i j : Nat) {t t' : TypeId} {x : Operand} {b : Nat} {cs vs : List Value} {z : Value} {sz by_ : Nat} (hT : TyF P t true z sz by_) (hx : F.ev x = some (.pointer (some ⟨b, j, none⟩))) (hn : Nat.blt d n = true) (hL : L[i]? = some (.box b cs t')) (hu : (cs.drop j).take sz = vs) (hl : vs.length = sz)
    (h : Wl md P ops Q n rest ((d, .agg vs.toArray) :: F) (St w0 m0 m L R)) (hg : wantedF ops F g = some true := by rfl) :
    Wl md P ops Q n ({ dst := some d, op := .load t x, type := ty, pos := pos, after := af, guard := g } :: rest) F (St w0 m0 m L R) :=
  Wl.loads_at hT hx hn hl (fun w hw => by
    have := (Blk.box_cells (hw.get hL)).part j sz
    rwa [hu, show (⟨b, 0, none⟩ : Addr).add j = ⟨b, j, none⟩ by unfold Addr.add; split <;> simp_all] at this) h hg
/-- Out of what is read besides. -/
theorem Wl.loadr {t : TypeId} {x : Operand} {p a : Addr} {j : Nat} {cs : List Value} {u z : Value} {sz by_ : Nat} (hT : TyF P t false z sz by_) (hR : ∀ w, R w → Cells w a cs) (hx : F.ev x = some (.pointer (some p))) (hn : Nat.blt d n = true) (hp : p = a.add j) (hu : cs[j]? = some u)
    (h : Wl md P ops Q n rest ((d, u) :: F) (St w0 m0 m L R)) (hg : wantedF ops F g = some true := by rfl) :
    Wl md P ops Q n ({ dst := some d, op := .load t x, type := ty, pos := pos, after := af, guard := g } :: rest) F (St w0 m0 m L R) :=
  Wl.load_at hT hx hn (fun w hw => hp ▸ hR w hw.now j u hu) h hg
theorem Wl.loadrs {t : TypeId} {x : Operand} {p a : Addr} {j : Nat} {cs vs : List Value} {z : Value} {sz by_ : Nat} (hT : TyF P t true z sz by_) (hR : ∀ w, R w → Cells w a cs) (hx : F.ev x = some (.pointer (some p))) (hn : Nat.blt d n = true) (hp : p = a.add j) (hu : (cs.drop j).take sz = vs) (hl : vs.length = sz)
    (h : Wl md P ops Q n rest ((d, .agg vs.toArray) :: F) (St w0 m0 m L R)) (hg : wantedF ops F g = some true := by rfl) :
    Wl md P ops Q n ({ dst := some d, op := .load t x, type := ty, pos := pos, after := af, guard := g } :: rest) F (St w0 m0 m L R) :=
  Wl.loads_at hT hx hn hl (fun w hw => by have := (hR w hw.now).part j sz; rw [hu] at this; exact hp ▸ this) h hg
/-- A whole variable, a whole element. -/
theorem Wl.loadbw (i : Nat) {t t' : TypeId} {x : Operand} {b : Nat} {cs : List Value} {z : Value} {sz by_ : Nat} (hT : TyF P t true z sz by_) (hx : F.ev x = some (.pointer (some ⟨b, 0, none⟩))) (hn : Nat.blt d n = true) (hL : L[i]? = some (.box b cs t')) (hl : cs.length = sz)
    (h : Wl md P ops Q n rest ((d, .agg cs.toArray) :: F) (St w0 m0 m L R)) (hg : wantedF ops F g = some true := by rfl) :
    Wl md P ops Q n ({ dst := some d, op := .load t x, type := ty, pos := pos, after := af, guard := g } :: rest) F (St w0 m0 m L R) :=
  Wl.loads_at hT hx hn hl (fun w hw => Blk.box_cells (hw.get hL)) h hg
theorem Wl.loadrw {t : TypeId} {x : Operand} {a : Addr} {cs : List Value} {z : Value} {sz by_ : Nat} (hT : TyF P t true z sz by_) (hR : ∀ w, R w → Cells w a cs) (hx : F.ev x = some (.pointer (some a))) (hn : Nat.blt d n = true) (hl : cs.length = sz)
    (h : Wl md P ops Q n rest ((d, .agg cs.toArray) :: F) (St w0 m0 m L R)) (hg : wantedF ops F g = some true := by rfl) :
    Wl md P ops Q n ({ dst := some d, op := .load t x, type := ty, pos := pos, after := af, guard := g } :: rest) F (St w0 m0 m L R) :=
  Wl.loads_at hT hx hn hl (fun w hw => hR w hw.now) h hg
/-! ### new blocks, stores -/
theorem Wl.alloc {t : TypeId} {ag : Bool} {z : Value} {cs : List Value} {sz by_ : Nat} (hT : TyF P t ag z sz by_) (hn : Nat.blt d n = true) (hz : z.cells = cs.toArray)
    (h : ∀ b, Wl none P ops Q n rest ((d, .pointer (some ⟨b, 0, none⟩)) :: F) (St w0 m0 m (L ++ [.box b cs t]) R)) : Wl none P ops Q n ({ dst := some d, op := .alloc t, type := ty, pos := pos, after := af, guard := none } :: rest) F (St w0 m0 m L R) :=
  Wl.valw (G := Nat) (fun b => .pointer (some ⟨b, 0, none⟩)) (fun b => St w0 m0 m (L ++ [.box b cs t]) R) rfl rfl hn (fun ρ hρ w hw => ⟨w.heap.size, _, by
    simp [execOp, Instr.alloc, hT.zero w, newVar, newRow, hz], hw.alloc cs t⟩) h
theorem Wl.box {t : TypeId} {x : Operand} {v : Value} {cs : List Value} (hx : F.ev x = some v) (hn : Nat.blt d n = true) (hz : v.cells = cs.toArray)
    (h : ∀ b, Wl none P ops Q n rest ((d, .pointer (some ⟨b, 0, none⟩)) :: F) (St w0 m0 m (L ++ [.box b cs t]) R)) : Wl none P ops Q n ({ dst := some d, op := .box t x, type := ty, pos := pos, after := af, guard := none } :: rest) F (St w0 m0 m L R) :=
  Wl.valw (G := Nat) (fun b => .pointer (some ⟨b, 0, none⟩)) (fun b => St w0 m0 m (L ++ [.box b cs t]) R) rfl rfl hn (fun ρ hρ w hw => ⟨w.heap.size, _, by
    simp [execOp, Instr.box, hρ _ _ hx, newVar, newRow, hz], hw.alloc cs t⟩) h
/-- A store into the i-th block, from its j-th cell on. -/
theorem Wl.store (i j : Nat) {t t' : TypeId} {x y : Operand} {b : Nat} {cs vs : List Value} {v z : Value} {ag : Bool} {sz by_ : Nat} (hT : TyF P t ag z sz by_) (hx : F.ev x = some (.pointer (some ⟨b, j, none⟩))) (hy : F.ev y = some v) (hL : L[i]? = some (.box b cs t')) (hv : v.cells = vs.toArray) (hl : vs.length = sz)
    (h1 : vs.all (·.oneCell') = true) (hj : Nat.ble (j + sz) cs.length = true)
    (h : Wl none P ops Q n rest F (St w0 m0 m (L.set i (.box b (cs.take j ++ vs ++ cs.drop (j + sz)) t')) R)) : Wl none P ops Q n ({ dst := none, op := .store t x y, type := ty, pos := pos, after := af, guard := none } :: rest) F (St w0 m0 m L R) :=
  Wl.act (G := Unit) (fun _ => St w0 m0 m (L.set i (.box b (cs.take j ++ vs ++ cs.drop (j + sz)) t')) R) rfl rfl (fun ρ hρ w hw => by
    have hb : w.heap[b]? = some (.cells cs.toArray t' (0, 0)) := hw.get hL
    have hj' : j + sz ≤ cs.length := Nat.le_of_ble_eq_true hj
    have hrun := run_storeCells_at (P := P) b j t' vs 0 cs.toArray w hb (by simp; omega) (fun u hu => List.all_eq_true.1 h1 u hu)
    refine ⟨(), _, by simp [execOp, Instr.storeAt, Instr.sureAddr, storeVar, hρ _ _ hx, hρ _ _ hy, hT.sizeOf w, hv, hl, hrun]; rfl, ?_⟩
    refine hw.turn hL rfl rfl rfl (by simp [World.setRow]) (fun k hk hne => setRow_other _ _ _ _ (fun e => hne (by rw [e]; rfl))) ?_ (.inl rfl)
    have := setRow_heap w b cs.toArray (cs.take j ++ vs ++ cs.drop (j + sz)).toArray t' (0, 0) hb
    show (w.setRow b _).heap[b]? = _
    rw [← this]
    simp) (fun _ => h)
/-- A store of a whole variable. -/
theorem Wl.storew (i : Nat) {t t' : TypeId} {x y : Operand} {b : Nat} {cs vs : List Value} {v z : Value} {ag : Bool} {sz by_ : Nat} (hT : TyF P t ag z sz by_) (hx : F.ev x = some (.pointer (some ⟨b, 0, none⟩))) (hy : F.ev y = some v) (hL : L[i]? = some (.box b cs t')) (hv : v.cells = vs.toArray) (hl : vs.length = sz)
    (h1 : vs.all (·.oneCell') = true) (hj : cs.length = sz)
    (h : Wl none P ops Q n rest F (St w0 m0 m (L.set i (.box b vs t')) R)) : Wl none P ops Q n ({ dst := none, op := .store t x y, type := ty, pos := pos, after := af, guard := none } :: rest) F (St w0 m0 m L R) :=
  Wl.store i 0 hT hx hy hL hv hl h1 (by simp [hj]) (by
    have e : cs.take 0 ++ vs ++ cs.drop (0 + sz) = vs := by rw [List.drop_of_length_le (by omega)]; simp
    rw [e]; exact h)
theorem ev_parts {ρ : Operand → Value} (hρ : ∀ x y, F.ev x = some y → ρ x = y) : ∀ (l : List (Nat × Operand)) (vs : List (Nat × Value)), l.map (fun p => (p.1, F.ev p.2)) = vs.map (fun p => (p.1, some p.2)) → l.map (fun p => (p.1, ρ p.2)) = vs
  | [], [], _ => rfl
  | [], _ :: _, h => by simp at h
  | _ :: _, [], h => by simp at h
  | (i, x) :: l, (j, v) :: vs, h => by
    simp only [List.map_cons, List.cons.injEq, Prod.mk.injEq] at h
    obtain ⟨⟨rfl, h1⟩, h2⟩ := h
    rw [List.map_cons, ev_parts hρ l vs h2, hρ _ _ h1]
/-- A slice literal (the variadic's box of append(v, x) too). -/
theorem Wl.slit {t e : TypeId} {len : Nat} {parts : List (Nat × Operand)} {z : Value} {ag : Bool} {sz by_ : Nat} (vs : List (Nat × Value)) (cs : List Value) (ht : P.underlying t = some (.slice e)) (hT : TyF P e ag z sz by_) (hx : parts.map (fun p => (p.1, F.ev p.2)) = vs.map (fun p => (p.1, some p.2))) (hn : Nat.blt d n = true)
    (hs : Nat.ble 1 (len * sz) = true) (hs2 : Nat.ble (len * sz) 16777216 = true) (hf : Instr.fill (fun i => some (i * sz, sz)) ((Array.range (len * sz)).map (z.cells[· % z.cells.size]!)) vs = some cs.toArray)
    (h : ∀ b, Wl none P ops Q n rest ((d, .slice (some ⟨b, 0, none⟩) len len) :: F) (St w0 m0 m (L ++ [.box b cs e]) R)) : Wl none P ops Q n ({ dst := some d, op := .buildSlice t len parts.toArray, type := ty, pos := pos, after := af, guard := none } :: rest) F (St w0 m0 m L R) :=
  Wl.valw (G := Nat) (fun b => .slice (some ⟨b, 0, none⟩) len len) (fun b => St w0 m0 m (L ++ [.box b cs e]) R) rfl rfl hn (fun ρ hρ w hw => ⟨w.heap.size, w.alloc (.cells cs.toArray e), by
    have h1 : 1 ≤ len * sz := Nat.le_of_ble_eq_true hs
    have h2 : len * sz ≤ 16777216 := Nat.le_of_ble_eq_true hs2
    have h3 : ¬ len * sz = 0 := by omega
    have h4 : ¬ 16777216 < len * sz := by omega
    have h5 : (parts.toArray.map fun x => (x.1, ρ x.2)).toList = vs := by rw [← ev_parts hρ parts vs hx]; simp
    simp only [execOp, Instr.buildSlice, Sem.run_bind, run_underlying ht, Result.andThen_ok, hT.sizeOf w, h5]
    simp [h3, h4, newRow, hT.zero w, hf], hw.alloc cs e⟩) h
theorem fill_one_list (sz : Nat) : ∀ (cs : List Value) (k : Nat) (a : Array Value), a.size = sz → k + cs.length = sz →
    (cs.zipIdx k).foldl (fun acc (p : Value × Nat) => acc.setIfInBounds p.2 p.1) a = (a.toList.take k ++ cs).toArray
  | [], k, a, ha, hk => by
    have : a.toList.take k = a.toList := List.take_of_length_le (by simp at hk ⊢; omega)
    simp [this]
  | c :: cs, k, a, ha, hk => by
    simp only [List.length_cons] at hk
    rw [List.zipIdx_cons, List.foldl_cons, fill_one_list sz cs (k + 1) _ (by simpa using ha) (by omega)]
    congr 1
    simp only [Array.toList_setIfInBounds]
    rw [List.take_set, List.take_succ_eq_append_getElem (by simp; omega), List.set_append_right _ _ (by simp; omega)]
    simp [List.length_take]
    rw [Nat.min_eq_left (by omega)]
    simp
/-- One value in line: the variadic's box of append(v, x). -/
theorem Wl.slice1 {t e : TypeId} {x : Operand} {v z : Value} {cs : List Value} {ag : Bool} {sz by_ : Nat} (ht : P.underlying t = some (.slice e)) (hT : TyF P e ag z sz by_) (hx : F.ev x = some v) (hn : Nat.blt d n = true) (hv : v.cells = cs.toArray) (hl : cs.length = sz) (hs : Nat.ble 1 sz = true) (hs2 : Nat.ble sz 16777216 = true)
    (h : ∀ b, Wl none P ops Q n rest ((d, .slice (some ⟨b, 0, none⟩) 1 1) :: F) (St w0 m0 m (L ++ [.box b cs e]) R)) : Wl none P ops Q n ({ dst := some d, op := .buildSlice t 1 #[(0, x)], type := ty, pos := pos, after := af, guard := none } :: rest) F (St w0 m0 m L R) :=
  Wl.slit (parts := [(0, x)]) [(0, v)] cs ht hT (by simp [hx]) hn (by rw [Nat.one_mul]; exact hs) (by rw [Nat.one_mul]; exact hs2) (by
    have h0 : (v.cells.zipIdx.foldl (fun (acc : Array Value) (p : Value × Nat) => acc.setIfInBounds p.2 p.1) ((Array.range sz).map (z.cells[· % z.cells.size]!))) = cs.toArray := by
      have := fill_one_list sz cs 0 ((Array.range sz).map (z.cells[· % z.cells.size]!)) (by simp) (by omega)
      simp only [List.take_zero, List.nil_append] at this
      rw [← this, hv, ← Array.foldl_toList, Array.toList_zipIdx]
    have hsz : v.cells.size = sz := by rw [hv]; simpa using hl
    simp only [Instr.fill, Nat.one_mul, Nat.zero_mul, Nat.zero_add, hsz, Array.size_map, Array.size_range]
    simp
    simpa using h0) h
/-- A struct literal. -/
theorem Wl.build {t : TypeId} {parts : List (Nat × Operand)} (vs : List (Nat × Value)) (cs : List Value) (hx : parts.map (fun p => (p.1, F.ev p.2)) = vs.map (fun p => (p.1, some p.2))) (hn : Nat.blt d n = true)
    (hf : ∀ w, (Instr.build t vs.toArray).run P w = .ok (.agg cs.toArray) w)
    (h : Wl md P ops Q n rest ((d, .agg cs.toArray) :: F) H) (hg : wantedF ops F g = some true := by rfl) :
    Wl md P ops Q n ({ dst := some d, op := .build t parts.toArray, type := ty, pos := pos, after := af, guard := g } :: rest) F H :=
  Wl.val _ rfl hn (fun ρ hρ w hw => by
    have h5 : (parts.toArray.map fun x => (x.1, ρ x.2)) = vs.toArray := by rw [← ev_parts hρ parts vs hx]; simp
    simp [execOp, h5, hf w]) h hg
/-- append(v, x): v a row of one's own (the i-th), x's box the j-th. -/
theorem Wl.app1 (i j : Nat) {t e : TypeId} {s x : Operand} {z : Value} {ag : Bool} {sz by_ k : Nat} {v : Value} {b : Nat} {xs ys : List Value} (ht : P.underlying t = some (.slice e)) (hT : TyF P e ag z sz by_) (hs : F.ev s = some v) (hx : F.ev x = some (.slice (some ⟨b, 0, none⟩) 1 1)) (hn : Nat.blt d n = true)
    (hL : L[i]? = some (.row v e sz k xs)) (hL2 : L[j]? = some (.box b ys e)) (hz : z.cells.size = sz) (hs0 : Nat.ble 1 sz = true) (hys : ys.length = sz) (h1 : ys.all (·.oneCell') = true) (hb0 : Nat.ble 1 by_ = true) (hl : (k + 1) * by_ ≤ 140737488355328)
    (h : ∀ v', Wl none P ops Q n rest ((d, v') :: F) (St w0 m0 m (L.set i (.row v' e sz (k + 1) (xs ++ ys))) R)) : Wl none P ops Q n ({ dst := some d, op := .call { callee := .builtin .append, args := #[s, x], argTypes := #[t, t] }, type := ty, pos := pos, after := af, guard := none } :: rest) F (St w0 m0 m L R) := by
  refine Wl.valw (G := Value) (fun v => v) (fun v' => St w0 m0 m (L.set i (.row v' e sz (k + 1) (xs ++ ys))) R) rfl rfl hn (fun ρ hρ w hw => ?_) h
  obtain ⟨i0, hi, hzz⟩ := Option.map_eq_some_iff.1 hT.info
  simp only [Prod.mk.injEq] at hzz
  obtain ⟨hz0, hz1, hz2⟩ := hzz
  have hs0' : 0 < sz := Nat.le_of_ble_eq_true hs0
  have hb0' : 0 < by_ := Nat.le_of_ble_eq_true hb0
  have hrow : w.ownsRow 0 e sz v k xs := hw.get hL
  have hbox : w.heap[b]? = some (.cells ys.toArray e (0, 0)) := hw.get hL2
  have hlen : k + 1 ≤ 140737488355328 := Nat.le_trans (Nat.le_mul_of_pos_right _ hb0') hl
  obtain ⟨v', w', hr, h2, h3, h4, h5⟩ := run_append_own_at (P := P) w 0 t ty e i0 z sz by_ ht hi hz0 hz1 hz2 hz hs0' v k xs hrow ⟨b, 0, none⟩ 1 1 ys (by rw [hys]; simp) (by simpa using World.news_of_block hbox) (fun u hu => List.all_eq_true.1 h1 u hu) (by simp only [maxLen]; omega) hl (Nat.zero_le _)
  refine ⟨v', w', by simp [execOp, resolve, invoke, builtin, hρ _ _ hs, hρ _ _ hx, hr], ?_⟩
  refine hw.turn hL h3.os h3.tape h3.output h3.size (fun k hk hne => h3.block k hk (fun e => hne e.symm)) h2 ?_
  rcases h5 with h5 | h5
  · exact .inl h5
  · exact .inr ⟨_, h5, Nat.le_refl _⟩
end
end
end Go.Proofs.YtkffjbijamfnoaaGreat
