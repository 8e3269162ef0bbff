/-
  The program's data and what its functions compute, in plain Lean: no program in sight.
-/
import Derived.Test.YtkffjbijamfnoaaGreatHlKinds
set_option linter.unusedVariables false
set_option linter.unusedSimpArgs false
namespace Go.Proofs.YtkffjbijamfnoaaGreat
open Go.RowKit
structure Rec where
  key : Int
  time : Int
  val : Int
deriving DecidableEq, Inhabited
structure Item where
  kind : Int
  rcd : Rec
  mark : Int
deriving DecidableEq, Inhabited
structure Span where
  frm : Int
  to : Int
deriving DecidableEq, Inhabited
structure Pane where
  key : Int
  span : Span
  acc : Int
deriving DecidableEq, Inhabited
structure Win where
  kind : Int
  size : Int
  slide : Int
deriving DecidableEq, Inhabited
inductive Expr where
  | mk (op n : Int) (l : List Expr)
deriving Inhabited
def Expr.op : Expr → Int | .mk o _ _ => o
def Expr.n : Expr → Int | .mk _ n _ => n
def Expr.l : Expr → List Expr | .mk _ _ l => l
structure Node where
  kind : Int
  ins : List Int
  par : Int
  e : Expr
  agg : Int
  win : Win
deriving Inhabited
structure Task where
  node : Int
  part : Int
deriving DecidableEq, Inhabited
structure Chan where
  frm : Int
  to : Int
  input : Int
deriving DecidableEq, Inhabited
abbrev Logs := List (List (List Item))

/-! ### as they lie in memory -/
def eInt (x : Int) : List Value := [.int .i64 x]
def eRec (x : Rec) : List Value := [.int .i64 x.key, .int .i64 x.time, .int .i64 x.val]
def eItem (x : Item) : List Value := [.int .i64 x.kind, .int .i64 x.rcd.key, .int .i64 x.rcd.time, .int .i64 x.rcd.val, .int .i64 x.mark]
def eSpan (x : Span) : List Value := [.int .i64 x.frm, .int .i64 x.to]
def ePane (x : Pane) : List Value := [.int .i64 x.key, .int .i64 x.span.frm, .int .i64 x.span.to, .int .i64 x.acc]
def eTask (x : Task) : List Value := [.int .i64 x.node, .int .i64 x.part]
def eChan (x : Chan) : List Value := [.int .i64 x.frm, .int .i64 x.to, .int .i64 x.input]
def eWin (x : Win) : List Value := [.int .i64 x.kind, .int .i64 x.size, .int .i64 x.slide]
def eBool (x : Bool) : List Value := [.bool x]
def kInt : Kn Int := Kn.pure eInt 1 (fun _ => rfl) (fun _ => rfl) (by decide)
def kBool : Kn Bool := Kn.pure eBool 1 (fun _ => rfl) (fun _ => rfl) (by decide)
def kRec : Kn Rec := Kn.pure eRec 3 (fun _ => rfl) (fun _ => rfl) (by decide)
def kItem : Kn Item := Kn.pure eItem 5 (fun _ => rfl) (fun _ => rfl) (by decide)
def kSpan : Kn Span := Kn.pure eSpan 2 (fun _ => rfl) (fun _ => rfl) (by decide)
def kPane : Kn Pane := Kn.pure ePane 4 (fun _ => rfl) (fun _ => rfl) (by decide)
def kTask : Kn Task := Kn.pure eTask 2 (fun _ => rfl) (fun _ => rfl) (by decide)
def kChan : Kn Chan := Kn.pure eChan 3 (fun _ => rfl) (fun _ => rfl) (by decide)
mutual
def Expr.Kc (w : World) : Expr → List Value → Prop
  | .mk op n l, cs => ∃ A c, cs = [.int .i64 op, .int .i64 n, .slice A l.length c] ∧ l.length ≤ c ∧ l.length ≤ 9223372036854775807 ∧ (l ≠ [] → ∃ ad, A = some ad ∧ Expr.Kl w ad 0 l)
def Expr.Kl (w : World) (ad : Addr) : Nat → List Expr → Prop
  | _, [] => True
  | j, e :: l => (∃ c, Expr.Kc w e c ∧ Cells w (ad.add (j * 3)) c) ∧ Expr.Kl w ad (j + 1) l
end
def kExpr : Kn Expr where
  sz := 3
  K := Expr.Kc
  len := by rintro w ⟨op, n, l⟩ cs h; simp only [Expr.Kc] at h; obtain ⟨A, c, rfl, _⟩ := h; rfl
  one := by rintro w ⟨op, n, l⟩ cs h; simp only [Expr.Kc] at h; obtain ⟨A, c, rfl, _⟩ := h; rfl
  pos := by decide
theorem Expr.Kl_iff (w : World) (ad : Addr) : ∀ (l : List Expr) (j : Nat), Expr.Kl w ad j l ↔ ∀ (i : Nat) (x : Expr), l[i]? = some x → ∃ c, Expr.Kc w x c ∧ Cells w (ad.add ((j + i) * 3)) c
  | [], j => by simp [Expr.Kl]
  | e :: l, j => by
    simp only [Expr.Kl, Expr.Kl_iff w ad l (j + 1)]
    constructor
    · rintro ⟨h1, h2⟩ i x hx
      cases i with
      | zero => simp at hx; subst hx; exact h1
      | succ i => rw [show j + (i + 1) = j + 1 + i by omega]; exact h2 i x (by simpa using hx)
    · intro h
      exact ⟨h 0 e rfl, fun i x hx => by rw [show j + 1 + i = j + (i + 1) by omega]; exact h (i + 1) x (by simpa using hx)⟩
theorem Expr.K_iff (w : World) (op n : Int) (l : List Expr) (cs : List Value) : kExpr.K w (.mk op n l) cs ↔ ∃ A c, cs = [.int .i64 op, .int .i64 n, .slice A l.length c] ∧ l.length ≤ c ∧ kExpr.Row w A l := by
  show Expr.Kc w _ cs ↔ _
  simp only [Expr.Kc, Kn.Row, Expr.Kl_iff, Nat.zero_add]
  rfl
theorem St.expr_get {w0 w : World} {m0 m : Nat → Prop} {L : List Blk} {R : World → Prop} {ad : Addr} {l : List Expr} (h : St w0 m0 m L R w) (hR : ∀ w, R w → kExpr.Row w (some ad) l) (j : Nat) (hj : j < l.length) :
    ∃ p : Option Addr × Nat, l[j].l.length ≤ p.2 ∧ St w0 m0 m L (fun w => R w ∧ Cells w (ad.add (j * 3)) [.int .i64 l[j].op, .int .i64 l[j].n, .slice p.1 l[j].l.length p.2] ∧ kExpr.Row w p.1 l[j].l) w := by
  obtain ⟨c, hc⟩ := h.row_get hR j hj
  generalize l[j] = x at *
  obtain ⟨op, n, k⟩ := x
  obtain ⟨p, e, hp⟩ := hc.open (fun p : Option Addr × Nat => [Value.int .i64 op, .int .i64 n, .slice p.1 k.length p.2]) (fun x y e => by
    simp only [List.cons.injEq, Value.slice.injEq, true_and, and_true] at e
    exact Prod.ext e.1 e.2) (Q := fun p w => k.length ≤ p.2 ∧ kExpr.Row w p.1 k) (fun w hw => by
    obtain ⟨A, c', e, h1, h2⟩ := (Expr.K_iff w op n k c).1 hw.2.2
    exact ⟨(A, c'), e, h1, h2⟩)
  subst e
  exact ⟨p, hp.now.2.1, hp.imp fun w hw => ⟨hw.1.1, hw.1.2.1, hw.2.2⟩⟩
/-- A node: its inputs and its expression lie elsewhere. -/
def Node.Kc (w : World) (x : Node) (cs : List Value) : Prop := ∃ A c A2 c2, cs = [.int .i64 x.kind, .slice A x.ins.length c, .int .i64 x.par, .int .i64 x.e.op, .int .i64 x.e.n, .slice A2 x.e.l.length c2, .int .i64 x.agg, .int .i64 x.win.kind, .int .i64 x.win.size, .int .i64 x.win.slide] ∧
  x.ins.length ≤ c ∧ kInt.Row w A x.ins ∧ x.e.l.length ≤ c2 ∧ kExpr.Row w A2 x.e.l
def kNode : Kn Node where
  sz := 10
  K := Node.Kc
  len := by rintro w x cs ⟨A, c, A2, c2, rfl, _⟩; rfl
  one := by rintro w x cs ⟨A, c, A2, c2, rfl, _⟩; rfl
  pos := by decide

/-- The remainder that is not below 0. -/
def place (k n : Int) : Int := k % n

/-! ### expressions -/
def arity (op : Int) : Int := if 1 ≤ op ∧ op ≤ 4 then 0 else if op = 14 then 3 else if 5 ≤ op ∧ op ≤ 13 then 2 else -1
mutual
def Expr.formed : Expr → Bool
  | .mk op n l => decide (arity op = l.length) && (decide (n = 0) || decide (op = 1)) && Expr.formedL l
def Expr.formedL : List Expr → Bool
  | [] => true
  | e :: l => e.formed && Expr.formedL l
end
mutual
def Expr.count : Expr → Nat
  | .mk _ _ l => 1 + Expr.countL l
def Expr.countL : List Expr → Nat
  | [] => 0
  | e :: l => e.count + Expr.countL l
end
mutual
def Expr.deep : Expr → Nat
  | .mk _ _ l => 1 + Expr.deepL l
def Expr.deepL : List Expr → Nat
  | [] => 0
  | e :: l => max e.deep (Expr.deepL l)
end
theorem Expr.count_pos (e : Expr) : 0 < e.count := by obtain ⟨op, n, l⟩ := e; simp only [Expr.count]; omega
mutual
theorem Expr.deep_le : ∀ (e : Expr), e.deep ≤ e.count
  | .mk _ _ l => by have := Expr.deepL_le l; simp only [Expr.deep, Expr.count]; omega
theorem Expr.deepL_le : ∀ (l : List Expr), Expr.deepL l ≤ Expr.countL l
  | [] => by simp [Expr.deepL]
  | e :: l => by have := Expr.deep_le e; have := Expr.deepL_le l; simp only [Expr.deepL, Expr.countL]; omega
end
theorem Expr.countL_get : ∀ (l : List Expr) (j : Nat) (hj : j < l.length), l[j].count ≤ Expr.countL l
  | e :: l, 0, _ => by simp only [Expr.countL, List.getElem_cons_zero]; omega
  | e :: l, j + 1, hj => by
    simp only [Expr.countL, List.getElem_cons_succ]
    have := Expr.countL_get l j (by simpa using hj)
    omega
theorem Expr.count_child (e : Expr) (j : Nat) (hj : j < e.l.length) : e.l[j].count < e.count := by
  obtain ⟨op, n, l⟩ := e
  have := Expr.countL_get l j hj
  simp only [Expr.count, Expr.l]
  omega
theorem Expr.formedL_drop (l : List Expr) (k : Nat) (h : k < l.length) : Expr.formedL (l.drop k) = (l[k].formed && Expr.formedL (l.drop (k + 1))) := by
  rw [List.drop_eq_getElem_cons h]; simp only [Expr.formedL]
theorem Expr.formed_eq (e : Expr) : e.formed = (decide (arity e.op = e.l.length) && (decide (e.n = 0) || decide (e.op = 1)) && Expr.formedL e.l) := by
  obtain ⟨op, n, l⟩ := e; simp only [Expr.formed, Expr.op, Expr.n, Expr.l]; rfl
theorem Expr.countL_drop (l : List Expr) (k : Nat) (h : k < l.length) : Expr.countL (l.drop k) = l[k].count + Expr.countL (l.drop (k + 1)) := by
  rw [List.drop_eq_getElem_cons h]; simp only [Expr.countL]
theorem Expr.deepL_drop (l : List Expr) (k : Nat) (h : k < l.length) : Expr.deepL (l.drop k) = max l[k].deep (Expr.deepL (l.drop (k + 1))) := by
  rw [List.drop_eq_getElem_cons h]; simp only [Expr.deepL]
theorem Expr.count_eq (e : Expr) : e.count = 1 + Expr.countL e.l := by obtain ⟨op, n, l⟩ := e; simp only [Expr.count, Expr.l]
theorem Expr.deep_eq (e : Expr) : e.deep = 1 + Expr.deepL e.l := by obtain ⟨op, n, l⟩ := e; simp only [Expr.deep, Expr.l]
mutual
/-- How many operators, counted to a bound, as far as they go deep. -/
def Expr.light : Expr → Int → Int → Int
  | .mk _ _ l, most, deep => if most ≤ 0 ∨ deep ≤ 0 then most + 1 else Expr.lightL l most deep 1
def Expr.lightL : List Expr → Int → Int → Int → Int
  | [], _, _, n => n
  | e :: l, most, deep, n => if n ≤ most then Expr.lightL l most deep (n + e.light (most - n) (deep - 1)) else n
end
mutual
theorem Expr.light_bd : ∀ (e : Expr) (most deep : Int), 0 ≤ most → 1 ≤ e.light most deep ∧ e.light most deep ≤ most + 1
  | .mk _ _ l, most, deep, h => by
    simp only [Expr.light]
    split
    · omega
    · exact Expr.lightL_bd l most deep 1 (by omega) (by omega)
theorem Expr.lightL_bd : ∀ (l : List Expr) (most deep n : Int), 1 ≤ n → n ≤ most + 1 → 1 ≤ Expr.lightL l most deep n ∧ Expr.lightL l most deep n ≤ most + 1
  | [], most, deep, n, h1, h2 => ⟨h1, h2⟩
  | e :: l, most, deep, n, h1, h2 => by
    simp only [Expr.lightL]
    split
    · have := Expr.light_bd e (most - n) (deep - 1) (by omega)
      exact Expr.lightL_bd l most deep _ (by omega) (by omega)
    · exact ⟨h1, h2⟩
end
theorem Expr.light_eq (e : Expr) (most deep : Int) : e.light most deep = if most ≤ 0 ∨ deep ≤ 0 then most + 1 else Expr.lightL e.l most deep 1 := by
  obtain ⟨op, n, l⟩ := e; simp only [Expr.light, Expr.l]
theorem Expr.lightL_drop (l : List Expr) (k : Nat) (h : k < l.length) (most deep n : Int) : Expr.lightL (l.drop k) most deep n = if n ≤ most then Expr.lightL (l.drop (k + 1)) most deep (n + l[k].light (most - n) (deep - 1)) else n := by
  rw [List.drop_eq_getElem_cons h]; simp only [Expr.lightL]
theorem Expr.lightL_mono : ∀ (l : List Expr) (most deep n : Int), 1 ≤ n → n ≤ most + 1 → n ≤ Expr.lightL l most deep n
  | [], most, deep, n, h1, h2 => Int.le_refl _
  | e :: l, most, deep, n, h1, h2 => by
    simp only [Expr.lightL]
    split
    · have := Expr.light_bd e (most - n) (deep - 1) (by omega)
      have := Expr.lightL_mono l most deep (n + e.light (most - n) (deep - 1)) (by omega) (by omega)
      omega
    · omega
mutual
theorem Expr.light_count : ∀ (e : Expr) (most deep : Int), 0 ≤ most → e.light most deep ≤ most → (e.count : Int) ≤ e.light most deep ∧ (e.deep : Int) ≤ deep
  | .mk _ _ l, most, deep, h0, h => by
    simp only [Expr.light] at h ⊢
    split at h
    · omega
    · rename_i hn
      rw [if_neg hn]
      have := Expr.lightL_count l most deep 1 (by omega) (by omega) h
      simp only [Expr.count, Expr.deep]
      omega
theorem Expr.lightL_count : ∀ (l : List Expr) (most deep n : Int), 1 ≤ n → n ≤ most + 1 → Expr.lightL l most deep n ≤ most → n + (Expr.countL l : Int) ≤ Expr.lightL l most deep n ∧ ((Expr.deepL l : Int) ≤ deep - 1 ∨ (Expr.deepL l = 0))
  | [], most, deep, n, h1, h2, h => by simp [Expr.lightL, Expr.countL, Expr.deepL]
  | e :: l, most, deep, n, h1, h2, h => by
    simp only [Expr.lightL, Expr.countL, Expr.deepL] at h ⊢
    split at h
    · rename_i hn
      rw [if_pos hn]
      have hb := Expr.light_bd e (most - n) (deep - 1) (by omega)
      have hm := Expr.lightL_mono l most deep (n + e.light (most - n) (deep - 1)) (by omega) (by omega)
      have i1 := Expr.light_count e (most - n) (deep - 1) (by omega) (by omega)
      have i2 := Expr.lightL_count l most deep (n + e.light (most - n) (deep - 1)) (by omega) (by omega) h
      omega
    · omega
end
/-- 0, 70, 71 -/
def Expr.check (e : Expr) : Int := if e.formed then (if 32 < e.count ∨ 8 < e.deep then 71 else 0) else 70
def Expr.zero (e : Expr) : Bool := decide (e.op = 0) && decide (e.n = 0) && decide (e.l.length = 0)
/-- Two's complement. -/
abbrev w64 (x : Int) : Int := IntKind.i64.wrap x
def truth (b : Bool) : Int := if b then 1 else 0
mutual
/-- Of one that is formed. -/
def Expr.eval (r : Rec) : Expr → Int
  | .mk op n l =>
    let v := Expr.evalL r l
    if op = 1 then n else if op = 2 then r.key else if op = 3 then r.time else if op = 4 then r.val
    else if op = 14 then (if v.getD 0 0 ≠ 0 then v.getD 1 0 else v.getD 2 0)
    else let a := v.getD 0 0; let b := v.getD 1 0
      if op = 5 then w64 (a + b) else if op = 6 then w64 (a - b) else if op = 7 then w64 (a * b) else if op = 8 then min a b else if op = 9 then max a b
      else if op = 10 then bits .xor .i64 a b else if op = 11 then bits .and .i64 a b else if op = 12 then truth (decide (a < b)) else truth (decide (a = b))
def Expr.evalL (r : Rec) : List Expr → List Int
  | [] => []
  | e :: l => e.eval r :: Expr.evalL r l
end

/-- What an operator comes to, its operands' values given. -/
def evalOp (op n : Int) (r : Rec) (v : Nat → Int) : Int :=
  if op = 1 then n else if op = 2 then r.key else if op = 3 then r.time else if op = 4 then r.val
  else if op = 14 then (if v 0 ≠ 0 then v 1 else v 2)
  else if op = 5 then w64 (v 0 + v 1) else if op = 6 then w64 (v 0 - v 1) else if op = 7 then w64 (v 0 * v 1) else if op = 8 then min (v 0) (v 1) else if op = 9 then max (v 0) (v 1)
  else if op = 10 then bits .xor .i64 (v 0) (v 1) else if op = 11 then bits .and .i64 (v 0) (v 1) else if op = 12 then truth (decide (v 0 < v 1)) else truth (decide (v 0 = v 1))
theorem Expr.evalL_map (r : Rec) : ∀ l : List Expr, Expr.evalL r l = l.map (·.eval r)
  | [] => rfl
  | e :: l => by simp only [Expr.evalL, List.map_cons, Expr.evalL_map r l]
theorem Expr.eval_eq (e : Expr) (r : Rec) : e.eval r = evalOp e.op e.n r (fun j => ((e.l[j]?).map (·.eval r)).getD 0) := by
  obtain ⟨op, n, l⟩ := e
  simp only [Expr.eval, evalOp, Expr.op, Expr.n, Expr.l, Expr.evalL_map, List.getD_eq_getElem?_getD, List.getElem?_map]; rfl
theorem Expr.formedL_get : ∀ (l : List Expr), Expr.formedL l = true → ∀ (j : Nat) (h : j < l.length), l[j].formed = true
  | e :: l, hf, 0, _ => by simp only [Expr.formedL, Bool.and_eq_true] at hf; exact hf.1
  | e :: l, hf, j + 1, h => by simp only [Expr.formedL, Bool.and_eq_true] at hf; exact Expr.formedL_get l hf.2 j (by simpa using h)
theorem Expr.formed_arity (e : Expr) (h : e.formed = true) : arity e.op = e.l.length := by
  rw [Expr.formed_eq] at h; simp only [Bool.and_eq_true, decide_eq_true_eq] at h; exact h.1.1
theorem Expr.formed_child (e : Expr) (h : e.formed = true) (j : Nat) (hj : j < e.l.length) : e.l[j].formed = true := by
  rw [Expr.formed_eq] at h; simp only [Bool.and_eq_true] at h; exact Expr.formedL_get _ h.2 j hj
/-- Of any expression. -/
def Expr.value (e : Expr) (r : Rec) : Int := if e.check = 0 then e.eval r else 0
theorem St.node_get {w0 w : World} {m0 m : Nat → Prop} {L : List Blk} {R : World → Prop} {ad : Addr} {l : List Node} (h : St w0 m0 m L R w) (hR : ∀ w, R w → kNode.Row w (some ad) l) (j : Nat) (hj : j < l.length) :
    ∃ p : (Option Addr × Nat) × (Option Addr × Nat), (l[j].ins.length ≤ p.1.2 ∧ l[j].e.l.length ≤ p.2.2) ∧ St w0 m0 m L (fun w => R w ∧ Cells w (ad.add (j * 10)) [.int .i64 l[j].kind, .slice p.1.1 l[j].ins.length p.1.2, .int .i64 l[j].par, .int .i64 l[j].e.op, .int .i64 l[j].e.n, .slice p.2.1 l[j].e.l.length p.2.2, .int .i64 l[j].agg, .int .i64 l[j].win.kind, .int .i64 l[j].win.size, .int .i64 l[j].win.slide] ∧ kInt.Row w p.1.1 l[j].ins ∧ kExpr.Row w p.2.1 l[j].e.l) w := by
  obtain ⟨c, hc⟩ := h.row_get hR j hj
  generalize l[j] = x at *
  obtain ⟨p, e, hp⟩ := hc.open (fun p : (Option Addr × Nat) × (Option Addr × Nat) => [Value.int .i64 x.kind, .slice p.1.1 x.ins.length p.1.2, .int .i64 x.par, .int .i64 x.e.op, .int .i64 x.e.n, .slice p.2.1 x.e.l.length p.2.2, .int .i64 x.agg, .int .i64 x.win.kind, .int .i64 x.win.size, .int .i64 x.win.slide]) (fun x y e => by
    simp only [List.cons.injEq, Value.slice.injEq, true_and, and_true] at e
    obtain ⟨⟨h1, h2⟩, h3, h4⟩ := e
    exact Prod.ext (Prod.ext h1 h2) (Prod.ext h3 h4)) (Q := fun p w => x.ins.length ≤ p.1.2 ∧ kInt.Row w p.1.1 x.ins ∧ x.e.l.length ≤ p.2.2 ∧ kExpr.Row w p.2.1 x.e.l) (fun w hw => by
    obtain ⟨A, c', A2, c2, e, h1, h2, h3, h4⟩ := hw.2.2
    exact ⟨((A, c'), (A2, c2)), e, h1, h2, h3, h4⟩)
  subst e
  exact ⟨p, ⟨hp.now.2.1, hp.now.2.2.2.1⟩, hp.imp fun w hw => ⟨hw.1.1, hw.1.2.1, hw.2.2.1, hw.2.2.2.2⟩⟩
abbrev nodeCells (x : Node) (p : (Option Addr × Nat) × (Option Addr × Nat)) : List Value := [.int .i64 x.kind, .slice p.1.1 x.ins.length p.1.2, .int .i64 x.par, .int .i64 x.e.op, .int .i64 x.e.n, .slice p.2.1 x.e.l.length p.2.2, .int .i64 x.agg, .int .i64 x.win.kind, .int .i64 x.win.size, .int .i64 x.win.slide]
/-- A node's cells, if it is one of these. -/
theorem St.node_opt {w0 w : World} {m0 m : Nat → Prop} {L : List Blk} {R : World → Prop} {J : Option Addr} {l : List Node} (h : St w0 m0 m L R w) (hR : ∀ w, R w → kNode.Row w J l) (i : Int) :
    ∃ p : (Option Addr × Nat) × (Option Addr × Nat), (∀ (j : Nat) (hj : j < l.length), i = j → (∃ jd, J = some jd) ∧ l[j].ins.length ≤ p.1.2 ∧ l[j].e.l.length ≤ p.2.2) ∧
      St w0 m0 m L (fun w => R w ∧ ∀ (jd : Addr) (j : Nat) (hj : j < l.length), i = j → J = some jd → Cells w (jd.add (j * 10)) (nodeCells l[j] p) ∧ kInt.Row w p.1.1 l[j].ins ∧ kExpr.Row w p.2.1 l[j].e.l) w := by
  by_cases hi : 0 ≤ i ∧ i < l.length
  · obtain ⟨k, rfl⟩ : ∃ k : Nat, i = k := ⟨i.toNat, by omega⟩
    have hk : k < l.length := by omega
    obtain ⟨jd, rfl⟩ := h.addr hR (by omega)
    obtain ⟨p, hp, hs⟩ := h.node_get hR k hk
    refine ⟨p, fun j hj e => ?_, hs.imp fun w hw => ⟨hw.1, fun jd' j hj e e' => ?_⟩⟩
    · obtain rfl : k = j := by omega
      exact ⟨⟨jd, rfl⟩, hp⟩
    · obtain rfl : k = j := by omega
      injection e' with e'
      subst e'
      exact hw.2
  · exact ⟨((none, 0), (none, 0)), fun j hj e => absurd ⟨by omega, by omega⟩ hi, h.imp fun w hw => ⟨hw, fun jd j hj e => absurd ⟨by omega, by omega⟩ hi⟩⟩
/-! ### jobs -/
def badIn (ns : List Node) (i : Int) : Bool := decide (i < 0) || decide ((ns.length : Int) ≤ i) || decide ((ns[i.toNat]?).map Node.kind = some 8)
def leastIn (k : Int) : Nat := if k = 1 then 0 else 1
def mostIn (k : Int) : Nat := if k = 1 then 0 else if k = 5 then 4 else 1
def insOk (ns : List Node) (n : Node) : Bool := decide (leastIn n.kind ≤ n.ins.length) && decide (n.ins.length ≤ mostIn n.kind) && !n.ins.any (badIn ns)
def spanOk (n : Int) : Bool := decide (1 ≤ n) && decide (n ≤ 68719476736)
def winOk (w : Win) : Bool := if w.kind = 1 ∨ w.kind = 3 then spanOk w.size && decide (w.slide = 0) else if w.kind = 2 then spanOk w.size && spanOk w.slide else false
def worked (k : Int) : Bool := decide (k = 2) || decide (k = 3) || decide (k = 4)
def keyed (k : Int) : Bool := decide (k = 6) || decide (k = 7)
/-- What is wrong with a node. -/
def nodeErr (ns : List Node) (n : Node) : Int :=
  if n.kind < 1 ∨ 8 < n.kind then 81 else if !insOk ns n then 82 else if n.par < 1 ∨ 4 < n.par then 84
  else if (if worked n.kind then decide (n.e.check ≠ 0) else !n.e.zero) then 85
  else if (if keyed n.kind then decide (n.agg < 1) || decide (5 < n.agg) else decide (n.agg ≠ 0)) then 86
  else if (if n.kind = 7 then !winOk n.win else decide (n.win ≠ ⟨0, 0, 0⟩)) then 87 else 0
def itemOk (x : Item) : Bool :=
  if x.kind = 1 then decide (x.mark = 0) && decide (-1099511627776 ≤ x.rcd.time) && decide (x.rcd.time ≤ 1099511627776)
  else if x.kind = 2 then decide (x.rcd = ⟨0, 0, 0⟩) && ((decide (-1099511627776 ≤ x.mark) && decide (x.mark ≤ 1099511627776)) || decide (x.mark = 9223372036854775807)) else false
/-- The first place at which p holds, or -1. -/
def idxOf {α : Type} (p : α → Bool) (l : List α) : Int := if l.any p then (l.findIdx p : Int) else -1
end Go.Proofs.YtkffjbijamfnoaaGreat
