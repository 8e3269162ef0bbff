/-
  What lies in memory: rows of elements.
-/
import Derived.Test.YtkffjbijamfnoaaGreatHlOps
set_option linter.unusedVariables false
set_option linter.unusedSimpArgs false
namespace Go.Proofs.YtkffjbijamfnoaaGreat
open Go.RowKit
/-- What an element's cells say. -/
structure Kn (α : Type) where
  sz : Nat
  K : World → α → List Value → Prop
  len : ∀ {w x cs}, K w x cs → cs.length = sz
  one : ∀ {w x cs}, K w x cs → cs.all (·.oneCell') = true
  pos : 0 < sz
/-- A row of elements in memory. -/
def Kn.Row {α : Type} (d : Kn α) (w : World) (A : Option Addr) (xs : List α) : Prop :=
  xs.length ≤ 9223372036854775807 ∧ (xs ≠ [] → ∃ ad, A = some ad ∧ ∀ (j : Nat) (x : α), xs[j]? = some x → ∃ c, d.K w x c ∧ Cells w (ad.add (j * d.sz)) c)
/-- A kind whose cells do not hang on memory. -/
def Kn.pure {α : Type} (enc : α → List Value) (sz : Nat) (hl : ∀ x, (enc x).length = sz) (h1 : ∀ x, (enc x).all (·.oneCell') = true) (hp : 0 < sz) : Kn α where
  sz := sz
  K := fun _ x cs => cs = enc x
  len := fun h => h ▸ hl _
  one := fun h => h ▸ h1 _
  pos := hp
theorem Kn.Row.addr {α : Type} {d : Kn α} {w : World} {A : Option Addr} {xs : List α} (h : d.Row w A xs) (hn : xs ≠ []) : ∃ ad, A = some ad := let ⟨ad, e, _⟩ := h.2 hn; ⟨ad, e⟩
theorem Kn.Row.get {α : Type} {d : Kn α} {w : World} {ad : Addr} {xs : List α} (h : d.Row w (some ad) xs) (j : Nat) (hj : j < xs.length) : ∃ c, d.K w xs[j] c ∧ Cells w (ad.add (j * d.sz)) c := by
  obtain ⟨ad', e, hc⟩ := h.2 (by intro e; subst e; simp at hj)
  injection e with e
  subst e
  exact hc j _ (List.getElem?_eq_getElem hj)
theorem Kn.Row.cells {α : Type} {enc : α → List Value} {sz : Nat} {hl : ∀ x, (enc x).length = sz} {h1 : ∀ x, (enc x).all (·.oneCell') = true} {hp : 0 < sz} {w : World} {ad : Addr} {xs : List α} (h : (Kn.pure enc sz hl h1 hp).Row w (some ad) xs) (j : Nat) (hj : j < xs.length) :
    Cells w (ad.add (j * sz)) (enc xs[j]) := by
  obtain ⟨c, rfl, hc⟩ := h.get j hj
  exact hc
/-- A row of one's own is a row of elements. -/
theorem own_row {α : Type} {d : Kn α} {w : World} {v : Value} {e : TypeId} {n : Nat} {cs : List Value} {xs : List α} (h : w.ownsRow 0 e d.sz v n cs) (hn : xs.length = n) (hc : ∀ (j : Nat) (x : α), xs[j]? = some x → d.K w x ((cs.drop (j * d.sz)).take d.sz)) :
    ∃ A c, v = .slice A n c ∧ n ≤ c ∧ d.Row w A xs := by
  rcases h.2 with ⟨rfl, rfl⟩ | ⟨g, cap, cur, rfl, _, hh, h1, h2, _⟩
  · obtain rfl : xs = [] := List.eq_nil_of_length_eq_zero hn
    exact ⟨none, 0, rfl, Nat.le_refl _, by simp, fun h => absurd rfl h⟩
  · simp only [maxLen] at h2
    refine ⟨_, cap, rfl, h1, by omega, fun _ => ⟨_, rfl, fun j x hj => ⟨_, hc j x hj, ?_⟩⟩⟩
    exact Cells.part (fun i u hu => h.cells (g := g) rfl i u hu) _ _
theorem flat_part {α : Type} (enc : α → List Value) (sz : Nat) (hl : ∀ x, (enc x).length = sz) : ∀ (xs : List α) (j : Nat) (x : α), xs[j]? = some x → ((xs.flatMap enc).drop (j * sz)).take sz = enc x
  | [], j, x, h => by simp at h
  | y :: xs, 0, x, h => by
    simp at h
    subst h
    simp [List.flatMap_cons, ← hl y]
  | y :: xs, j + 1, x, h => by
    rw [List.flatMap_cons, show (j + 1) * sz = sz + j * sz by rw [Nat.add_mul]; omega, ← List.drop_drop, ← hl y, List.drop_left, hl y]
    exact flat_part enc sz hl xs j x (by simpa using h)
theorem flat_snoc {α : Type} (enc : α → List Value) (xs : List α) (x : α) : xs.flatMap enc ++ enc x = (xs ++ [x]).flatMap enc := by simp
theorem own_row_pure {α : Type} {enc : α → List Value} {sz : Nat} (hl : ∀ x, (enc x).length = sz) (h1 : ∀ x, (enc x).all (·.oneCell') = true) (hp : 0 < sz) {w : World} {v : Value} {e : TypeId} {n : Nat} {xs : List α} (h : w.ownsRow 0 e sz v n (xs.flatMap enc)) (hn : xs.length = n) :
    ∃ A c, v = .slice A n c ∧ n ≤ c ∧ (Kn.pure enc sz hl h1 hp).Row w A xs :=
  own_row (d := Kn.pure enc sz hl h1 hp) h hn (fun j x hj => flat_part enc sz hl xs j x hj)

/-- A slice as an element. -/
def Kn.slice {α : Type} (d : Kn α) : Kn (List α) where
  sz := 1
  K := fun w xs cs => ∃ A c, cs = [.slice A xs.length c] ∧ xs.length ≤ c ∧ d.Row w A xs
  len := by rintro w x cs ⟨A, c, rfl, _⟩; rfl
  one := by rintro w x cs ⟨A, c, rfl, _⟩; rfl
  pos := Nat.one_pos
/-- A world in which one block is another thing. -/
def World.spoil (w : World) (b : Nat) : World := { w with heap := w.heap.setIfInBounds b (.cells #[] 0) }
/-- What a row's element says, whatever the blocks of m hold: ONE list of cells. -/
theorem Ro.row_get {α : Type} {d : Kn α} {m : Nat → Prop} {W : World} {ad : Addr} {xs : List α} (h : Ro m W (fun w => d.Row w (some ad) xs)) (j : Nat) (hj : j < xs.length) :
    ∃ c, Ro m W (fun w => Cells w (ad.add (j * d.sz)) c ∧ d.K w xs[j] c) := by
  obtain ⟨c, hK, hc⟩ := h.now.get j hj
  have hlen := d.len hK
  have hpos := d.pos
  have e0 : ∀ i, ((ad.add (j * d.sz)).add i).block = ad.block := fun i => by rw [Addr.add_block, Addr.add_block]
  have h0 : ∃ u, c[0]? = some u := by
    cases c with
    | nil => simp at hlen; omega
    | cons u c => exact ⟨u, rfl⟩
  obtain ⟨u, hu⟩ := h0
  have hlt : ad.block < W.heap.size := by
    have := World.block_lt_of_cell? W _ (hc 0 u hu)
    rwa [e0] at this
  have hnm : ¬ m ad.block := by
    intro hm
    have ha : Agree m W (World.spoil W ad.block) := ⟨by simp [World.spoil], fun k hk hn => by
      have : ad.block ≠ k := fun e => hn (e ▸ hm)
      simp [World.spoil, this]⟩
    obtain ⟨c', hK', hc'⟩ := (h _ ha).get j hj
    have hlen' := d.len hK'
    cases c' with
    | nil => simp at hlen'; omega
    | cons v c' =>
      have := hc' 0 v rfl
      have e : (World.spoil W ad.block).heap[((ad.add (j * d.sz)).add 0).block]? = some (.cells #[] 0 (0, 0)) := by
        rw [e0]
        simp [World.spoil, hlt]
      simp [World.cell?, e] at this
  refine ⟨c, fun W' hW => ?_⟩
  obtain ⟨c', hK', hc'⟩ := (h W' hW).get j hj
  have hb : W'.heap[ad.block]? = W.heap[ad.block]? := hW.2 _ hlt hnm
  have he : c' = c := by
    have hlen' := d.len hK'
    apply List.ext_getElem (by omega)
    intro i h1 h2
    have a1 := hc i _ (List.getElem?_eq_getElem h2)
    have a2 := hc' i _ (List.getElem?_eq_getElem h1)
    rw [World.cell?_of_block (w := W) (w' := W') (by rw [e0]; exact hb), a1] at a2
    exact (Option.some.inj a2).symm
  subst he
  exact ⟨hc', hK'⟩
section
variable {w0 w : World} {m0 m : Nat → Prop} {L : List Blk} {R : World → Prop}
theorem St.row_get {α : Type} {d : Kn α} {ad : Addr} {xs : List α} (h : St w0 m0 m L R w) (hR : ∀ w, R w → d.Row w (some ad) xs) (j : Nat) (hj : j < xs.length) :
    ∃ c, St w0 m0 m L (fun w => R w ∧ Cells w (ad.add (j * d.sz)) c ∧ d.K w xs[j] c) w := by
  obtain ⟨c, hc⟩ := Ro.row_get (h.ro.imp hR) j hj
  exact ⟨c, { h with ro := h.ro.and hc }⟩
theorem St.addr {α : Type} {d : Kn α} {A : Option Addr} {xs : List α} (h : St w0 m0 m L R w) (hR : ∀ w, R w → d.Row w A xs) (hn : 0 < xs.length) : ∃ ad, A = some ad :=
  (hR w h.now).addr (by intro e; subst e; simp at hn)
theorem St.open {β γ : Type} (f : β → γ) (hf : ∀ x y, f x = f y → x = y) {b : γ} {Q : β → World → Prop} (h : St w0 m0 m L R w) (hR : ∀ w, R w → ∃ x, b = f x ∧ Q x w) : ∃ x, b = f x ∧ St w0 m0 m L (fun w => R w ∧ Q x w) w := by
  obtain ⟨x, e, _⟩ := hR w h.now
  refine ⟨x, e, { h with ro := h.ro.and (h.ro.imp fun w hw => ?_) }⟩
  obtain ⟨y, e', hy⟩ := hR w hw
  obtain rfl := hf x y (e.symm.trans e')
  exact hy
theorem St.open_slice {α : Type} {d : Kn α} {cs : List Value} {xs : List α} (h : St w0 m0 m L R w) (hR : ∀ w, R w → d.slice.K w xs cs) : ∃ A c, cs = [.slice A xs.length c] ∧ xs.length ≤ c ∧ St w0 m0 m L (fun w => R w ∧ d.Row w A xs) w := by
  obtain ⟨x, e, hx⟩ := h.open (fun p : Option Addr × Nat => [Value.slice p.1 xs.length p.2]) (fun x y e => by
    simp only [List.cons.injEq, Value.slice.injEq, true_and, and_true] at e
    exact Prod.ext e.1 e.2) (Q := fun p w => xs.length ≤ p.2 ∧ d.Row w p.1 xs) (fun w hw => let ⟨A, c, e, h1, h2⟩ := hR w hw; ⟨(A, c), e, h1, h2⟩)
  exact ⟨x.1, x.2, e, hx.now.2.1, hx.imp fun w hw => ⟨hw.1, hw.2.2⟩⟩
end
/-- A row of one's own, told by its elements. -/
abbrev rowOf {α : Type} (enc : α → List Value) (v : Value) (e : TypeId) (sz : Nat) (xs : List α) : Blk := .row v e sz xs.length (xs.flatMap enc)
section
variable {P : Program} {ops : Array Oper} {Q : Exit → Act → World → Prop} {n : Nat} {F : Fr} {rest : List Oper} {d ty : Nat} {pos : String} {af : Array Edge}
variable {w0 : World} {m0 m : Nat → Prop} {L : List Blk} {R : World → Prop}
theorem Wl.app1e (i j : Nat) {α : Type} {enc : α → List Value} {t e : TypeId} {s x : Operand} {z : Value} {ag : Bool} {sz by_ : Nat} {v : Value} {b : Nat} {xs : List α} (y : α) {ys : List Value} (ht : P.underlying t = some (.slice e)) (hT : TyF P e ag z sz by_) (hs : F.ev s = some v) (hx : F.ev x = some (.slice (some ⟨b, 0, none⟩) 1 1)) (hn : Nat.blt d n = true)
    (hL : L[i]? = some (rowOf enc v e sz xs)) (hL2 : L[j]? = some (.box b ys e)) (hy : enc y = ys) (hz : z.cells.size = sz) (hs0 : Nat.ble 1 sz = true) (hys : ys.length = sz) (h1 : ys.all (·.oneCell') = true) (hb0 : Nat.ble 1 by_ = true) (hl : (xs.length + 1) * by_ ≤ 140737488355328)
    (h : ∀ v', Wl none P ops Q n rest ((d, v') :: F) (St w0 m0 m (L.set i (rowOf enc v' e sz (xs ++ [y]))) R)) : Wl none P ops Q n ({ dst := some d, op := .call { callee := .builtin .append, args := #[s, x], argTypes := #[t, t] }, type := ty, pos := pos, after := af, guard := none } :: rest) F (St w0 m0 m L R) :=
  Wl.app1 i j ht hT hs hx hn hL hL2 hz hs0 hys h1 hb0 hl (fun v' => by
    have := h v'
    simp only [rowOf, List.length_append, List.length_singleton, List.flatMap_append, List.flatMap_singleton, hy] at this
    exact this)
/-- What is there, taken out. -/
theorem Wc.exS {c : Code} {H : World → Prop} {α : Type} {p : α → Prop} {H' : α → World → Prop} (hH : ∀ w, H w → ∃ x, p x ∧ H' x w) (h : ∀ x, p x → Wc P Q n c F (H' x)) : Wc P Q n c F H := fun a w ho hw => let ⟨x, hp, hx⟩ := hH w hw; h x hp a w ho hx
theorem Wl.exS {l : List Oper} {H : World → Prop} {α : Type} {p : α → Prop} {H' : α → World → Prop} (hH : ∀ w, H w → ∃ x, p x ∧ H' x w) (h : ∀ x, p x → Wl none P ops Q n l F (H' x)) : Wl none P ops Q n l F H := fun a w ho hw => let ⟨x, hp, hx⟩ := hH w hw; h x hp a w ho hx
/-! ### loops over states -/
def StI {G : Type} (w0 : World) (m0 m : Nat → Prop) (p : G → Prop) (L : G → List Blk) (R : G → World → Prop) (g : G) (w : World) : Prop := p g ∧ St w0 m0 m (L g) (R g) w
theorem Wc.loopS {G : Type} {c : Code} (FI : G → Fr) (p : G → Prop) (LI : G → List Blk) (RI : G → World → Prop) (μ : G → Nat) (g : G) (hF : (FI g).sub F) (hp : p g) (hH : ∀ w, St w0 m0 m L R w → St w0 m0 m (LI g) (RI g) w)
    (round : ∀ g, p g → Wc P (Exit.then (LoopEnd n FI (StI w0 m0 m p LI RI) μ g) Q) n c (FI g) (St w0 m0 m (LI g) (RI g))) : Wc P Q n (.loop c) F (St w0 m0 m L R) :=
  Wc.loop FI (StI w0 m0 m p LI RI) μ g hF (fun w hw => ⟨hp, hH w hw⟩) (fun g a w ho hw => round g hw.1 a w ho hw.2)
theorem Wx.againS {G : Type} {H : World → Prop} {FI : G → Fr} {p : G → Prop} {LI : G → List Blk} {RI : G → World → Prop} {μ : G → Nat} {g : G} (g' : G) (hm : μ g' < μ g) (hF : (FI g').sub F) (hp : p g') (hH : ∀ w, H w → St w0 m0 m (LI g') (RI g') w) :
    Wx (Exit.then (LoopEnd n FI (StI w0 m0 m p LI RI) μ g) Q) n .normal F H := Wx.again g' hm hF (fun w hw => ⟨hp, hH w hw⟩)
theorem Wc.cutS {G : Type} {x y : Code} (FI : G → Fr) (p : G → Prop) (LI : G → List Blk) (RI : G → World → Prop)
    (first : Wc P (Exit.then (fun a w => ∃ g, (FI g).ok n a ∧ StI w0 m0 m p LI RI g w) Q) n x F (St w0 m0 m L R)) (rest : ∀ g, p g → Wc P Q n y (FI g) (St w0 m0 m (LI g) (RI g))) : Wc P Q n (.seq x y) F (St w0 m0 m L R) :=
  Wc.cut FI (StI w0 m0 m p LI RI) first (fun g a w ho hw => rest g hw.1 a w ho hw.2)
theorem Wx.metS {G : Type} {H : World → Prop} {FI : G → Fr} {p : G → Prop} {LI : G → List Blk} {RI : G → World → Prop} (g : G) (hF : (FI g).sub F) (hp : p g) (hH : ∀ w, H w → St w0 m0 m (LI g) (RI g) w) :
    Wx (Exit.then (fun a w => ∃ g, (FI g).ok n a ∧ StI w0 m0 m p LI RI g w) Q) n .normal F H := Wx.met g hF (fun w hw => ⟨hp, hH w hw⟩)
/-! ### calls -/
/-- What a contract says: the value, a fact, what lies in memory. -/
def Post {G : Type} (m : Nat → Prop) (w : World) (v : G → Value) (p : G → Prop) (L : G → List Blk) (R : G → World → Prop) (e : Ending) (w' : World) : Prop := ∃ g, e = .returned (v g) ∧ p g ∧ St w (fun _ => False) m (L g) (R g) w'
def argsEv (F : Fr) (l : List Operand) (vs : List Value) : Prop := l.map F.ev = vs.map some
theorem args_ev {ρ : Operand → Value} (hρ : ∀ x y, F.ev x = some y → ρ x = y) : ∀ (l : List Operand) (vs : List Value), l.map F.ev = vs.map some → l.map ρ = vs
  | [], [], _ => rfl
  | [], _ :: _, h => by simp at h
  | _ :: _, [], h => by simp at h
  | x :: l, v :: vs, h => by
    simp only [List.map_cons, List.cons.injEq] at h
    rw [List.map_cons, args_ev hρ l vs h.2, hρ _ _ h.1]
theorem run_call_static {ρ : Operand → Value} {ats : Array TypeId} {f : FuncId} {fn : Func} {args : List Operand} {vs : List Value} (hf : P.funcs[f]? = some fn) (hb : fn.body.isNone = false) (hnm : (fn.name == "runtime.NumGoroutine") = false)
    (hρ : ∀ x y, F.ev x = some y → ρ x = y) (hx : args.map F.ev = vs.map some) (w : World) {g : Option (Nat × Bool)} :
    (execOp ρ { dst := some d, op := .call { callee := .value (.func f), args := args.toArray, argTypes := ats }, type := ty, pos := pos, after := af, guard := g }).run P w = .ok (.enter f vs.toArray) w := by
  have h5 : args.toArray.map ρ = vs.toArray := by rw [← args_ev hρ args vs hx]; simp
  have h6 : ρ (.func f) = .func (.func f) #[] #[] := hρ _ _ rfl
  have h7 : ¬ fn.name = "runtime.NumGoroutine" := by simpa using hnm
  have h8 : ¬ fn.body = none := fun e => by rw [e] at hb; cases hb
  simp [execOp, resolve, h5, h6, Deferred.ofValue, invoke, callFunc, hf, h7, h8]
theorem Wl.callS {f : FuncId} {fn : Func} {args : List Operand} {ats : Array TypeId} {G : Type} {v : G → Value} {p : G → Prop} {L' : G → List Blk} {R' : G → World → Prop} (vs : List Value) (hf : P.funcs[f]? = some fn) (hb : fn.body.isNone = false) (hnm : (fn.name == "runtime.NumGoroutine") = false)
    (hx : args.map F.ev = vs.map some) (hn : Nat.blt d n = true)
    (hc : ∀ w, St w0 m0 m L R w → Calls P f vs.toArray w (Post (fun k => (m k ∧ k < w0.heap.size) ∨ ∃ x ∈ L, x.block = some k) w v p L' R'))
    (h : ∀ g, p g → Wl none P ops Q n rest ((d, v g) :: F) (St w0 m0 m (L ++ L' g) (fun w => R w ∧ R' g w))) :
    Wl none P ops Q n ({ dst := some d, op := .call { callee := .value (.func f), args := args.toArray, argTypes := ats }, type := ty, pos := pos, after := af, guard := none } :: rest) F (St w0 m0 m L R) := by
  refine Wl.call (f := f) (args := vs.toArray) v (fun g w => p g ∧ St w0 m0 m (L ++ L' g) (fun w => R w ∧ R' g w) w) rfl rfl hn (fun ρ hρ w hw => ?_) (fun w hw => (hc w hw).mono ?_) (fun g a w ho hw => h g hw.1 a w ho hw.2)
  · exact run_call_static hf hb hnm hρ hx w
  · rintro e w' ⟨g, rfl, h1, h2⟩
    exact ⟨g, rfl, h1, hw.join h2⟩
/-- A value alone. -/
def PostV (_m : Nat → Prop) (w : World) (v : Value) (e : Ending) (w' : World) : Prop := e = .returned v ∧ Below w.heap.size w w'
theorem St.of_below {w w' : World} (M : Nat → Prop) (h : Below w.heap.size w w') : St w (fun _ => False) M [] (fun _ => True) w' :=
  ⟨h.os, h.tape, h.output, h.size, fun k hk _ => h.block k hk, by simp, .nil, by simp, fun _ _ => trivial⟩
/-- A slice that is read. -/
def PostR {α : Type} (m : Nat → Prop) (w : World) (d : Kn α) (xs : List α) (e : Ending) (w' : World) : Prop := ∃ A c, e = .returned (.slice A xs.length c) ∧ xs.length ≤ c ∧ St w (fun _ => False) m [] (fun w => d.Row w A xs) w'
/-- A slice that is one's own from now on. -/
def PostO {α : Type} (m : Nat → Prop) (w : World) (enc : α → List Value) (t : TypeId) (sz : Nat) (xs : List α) (e : Ending) (w' : World) : Prop := ∃ v, e = .returned v ∧ St w (fun _ => False) m [rowOf enc v t sz xs] (fun _ => True) w'
/-- What nothing may hang on, at a call. -/
def Sealed (w0 : World) (m : Nat → Prop) (L : List Blk) (k : Nat) : Prop := (m k ∧ k < w0.heap.size) ∨ ∃ x ∈ L, x.block = some k
section
variable {w : World}
theorem St.read (h : St w0 m0 m L R w) {R' : World → Prop} (hr : ∀ w, R w → R' w) : Ro (Sealed w0 m L) w R' := h.ro.imp hr
end
theorem Wl.callV {md : Option (Bool × (Act → Prop))} {g : Option (Nat × Bool)} {f : FuncId} {fn : Func} {args : List Operand} {ats : Array TypeId} {v : Value} (vs : List Value) (hf : P.funcs[f]? = some fn) (hb : fn.body.isNone = false) (hnm : (fn.name == "runtime.NumGoroutine") = false)
    (hx : args.map F.ev = vs.map some) (hn : Nat.blt d n = true) (hc : ∀ w, St w0 m0 m L R w → Calls P f vs.toArray w (PostV (Sealed w0 m L) w v))
    (h : Wl md P ops Q n rest ((d, v) :: F) (St w0 m0 m L R)) (hg : wantedF ops F g = some true := by rfl) (hmd : callsMd md = true := by rfl) :
    Wl md P ops Q n ({ dst := some d, op := .call { callee := .value (.func f), args := args.toArray, argTypes := ats }, type := ty, pos := pos, after := af, guard := g } :: rest) F (St w0 m0 m L R) := by
  refine Wl.callq (f := f) (args := vs.toArray) v rfl hn (fun ρ hρ w hw => ?_) (fun w hw => (hc w hw).mono ?_) h hg hmd
  · exact run_call_static hf hb hnm hρ hx w
  · rintro e w' ⟨h1, h2⟩
    refine ⟨h1, ?_⟩
    have := (hw.join (St.of_below _ h2)).imp (R' := R) (fun w h => h.1)
    simpa using this
theorem Wl.callR {α : Type} {f : FuncId} {fn : Func} {args : List Operand} {ats : Array TypeId} {dk : Kn α} {xs : List α} (vs : List Value) (hf : P.funcs[f]? = some fn) (hb : fn.body.isNone = false) (hnm : (fn.name == "runtime.NumGoroutine") = false)
    (hx : args.map F.ev = vs.map some) (hn : Nat.blt d n = true) (hc : ∀ w, St w0 m0 m L R w → Calls P f vs.toArray w (PostR (Sealed w0 m L) w dk xs))
    (h : ∀ A c, xs.length ≤ c → Wl none P ops Q n rest ((d, .slice A xs.length c) :: F) (St w0 m0 m L (fun w => R w ∧ dk.Row w A xs))) :
    Wl none P ops Q n ({ dst := some d, op := .call { callee := .value (.func f), args := args.toArray, argTypes := ats }, type := ty, pos := pos, after := af, guard := none } :: rest) F (St w0 m0 m L R) :=
  Wl.callS (G := Option Addr × Nat) (v := fun g => .slice g.1 xs.length g.2) (p := fun g => xs.length ≤ g.2) (L' := fun _ => []) (R' := fun g w => dk.Row w g.1 xs) vs hf hb hnm hx hn (fun w hw => (hc w hw).mono (fun e w' ⟨A, c, h1, h2, h3⟩ => ⟨(A, c), h1, h2, h3⟩))
    (fun g hg => (h g.1 g.2 hg).heap (fun w hw => by simpa using hw))
theorem Wl.callO {α : Type} {f : FuncId} {fn : Func} {args : List Operand} {ats : Array TypeId} {enc : α → List Value} {t : TypeId} {sz : Nat} {xs : List α} (vs : List Value) (hf : P.funcs[f]? = some fn) (hb : fn.body.isNone = false) (hnm : (fn.name == "runtime.NumGoroutine") = false)
    (hx : args.map F.ev = vs.map some) (hn : Nat.blt d n = true) (hc : ∀ w, St w0 m0 m L R w → Calls P f vs.toArray w (PostO (Sealed w0 m L) w enc t sz xs))
    (h : ∀ v, Wl none P ops Q n rest ((d, v) :: F) (St w0 m0 m (L ++ [rowOf enc v t sz xs]) R)) :
    Wl none P ops Q n ({ dst := some d, op := .call { callee := .value (.func f), args := args.toArray, argTypes := ats }, type := ty, pos := pos, after := af, guard := none } :: rest) F (St w0 m0 m L R) :=
  Wl.callS (G := Value) (v := fun g => g) (p := fun _ => True) (L' := fun v => [rowOf enc v t sz xs]) (R' := fun _ _ => True) vs hf hb hnm hx hn (fun w hw => (hc w hw).mono (fun e w' ⟨v, h1, h3⟩ => ⟨v, h1, trivial, h3⟩))
    (fun g _ => (h g).heap (fun w hw => hw.imp (fun w h => h.1)))
/-- A function value that computes a value of each argument and leaves what R says. -/
def PredF {α : Type} (P : Program) (g : FuncId) (cap : List Value) (R : World → Prop) (args : α → List Value) (v : α → Value) (S : α → Prop) : Prop := ∀ (m : Nat → Prop) (w : World) (x : α), S x → Ro m w R → Calls P g (args x ++ cap).toArray w (PostV m w (v x))
theorem Wl.mkfun {fn : Fn} {cap : List Operand} (vs : List Value) (hx : cap.map F.ev = vs.map some) (hn : Nat.blt d n = true) {md : Option (Bool × (Act → Prop))} {H : World → Prop} {g : Option (Nat × Bool)} (h : Wl md P ops Q n rest ((d, .func fn #[] vs.toArray) :: F) H) (hg : wantedF ops F g = some true := by rfl) :
    Wl md P ops Q n ({ dst := some d, op := .makeFunc fn #[] cap.toArray, type := ty, pos := pos, after := af, guard := g } :: rest) F H :=
  Wl.val _ rfl hn (fun ρ hρ w hw => by
    have h5 : cap.toArray.map ρ = vs.toArray := by rw [← args_ev hρ cap vs hx]; simp
    simp [execOp, Instr.makeFunc, h5]) h hg
/-- A call through a function value. -/
theorem Wl.callF {md : Option (Bool × (Act → Prop))} {g : Option (Nat × Bool)} {fo : Operand} {f : FuncId} {fn : Func} {args : List Operand} {ats : Array TypeId} {v : Value} {cap : List Value} (vs : List Value) (hf : P.funcs[f]? = some fn) (hb : fn.body.isNone = false) (hnm : (fn.name == "runtime.NumGoroutine") = false)
    (hfo : F.ev fo = some (.func (.func f) #[] cap.toArray)) (hx : args.map F.ev = vs.map some) (hn : Nat.blt d n = true) (hc : ∀ w, St w0 m0 m L R w → Calls P f (vs ++ cap).toArray w (PostV (Sealed w0 m L) w v))
    (h : Wl md P ops Q n rest ((d, v) :: F) (St w0 m0 m L R)) (hg : wantedF ops F g = some true := by rfl) (hmd : callsMd md = true := by rfl) :
    Wl md P ops Q n ({ dst := some d, op := .call { callee := .value fo, args := args.toArray, argTypes := ats }, type := ty, pos := pos, after := af, guard := g } :: rest) F (St w0 m0 m L R) := by
  refine Wl.callq (f := f) (args := (vs ++ cap).toArray) v rfl hn (fun ρ hρ w hw => ?_) (fun w hw => (hc w hw).mono ?_) h hg hmd
  · have h5 : args.toArray.map ρ = vs.toArray := by rw [← args_ev hρ args vs hx]; simp
    have h6 : ρ fo = .func (.func f) #[] cap.toArray := hρ _ _ hfo
    have h7 : ¬ fn.name = "runtime.NumGoroutine" := by simpa using hnm
    have h8 : ¬ fn.body = none := fun e => by rw [e] at hb; cases hb
    simp [execOp, resolve, h5, h6, Deferred.ofValue, invoke, callFunc, hf, h7, h8]
  · rintro e w' ⟨h1, h2⟩
    refine ⟨h1, ?_⟩
    have := (hw.join (St.of_below _ h2)).imp (R' := R) (fun w h => h.1)
    simpa using this
/-- The i-th block is read from now on. -/
theorem Wl.freeze {l : List Oper} (i : Nat) {x : Blk} (hi : L[i]? = some x) (h : Wl none P ops Q n l F (St w0 (fun _ => False) m (L.eraseIdx i) (fun w => R w ∧ x.holds w))) : Wl none P ops Q n l F (St w0 (fun _ => False) m L R) := h.heap (fun w hw => hw.freeze i hi)
theorem Wc.freeze {c : Code} (i : Nat) {x : Blk} (hi : L[i]? = some x) (h : Wc P Q n c F (St w0 (fun _ => False) m (L.eraseIdx i) (fun w => R w ∧ x.holds w))) : Wc P Q n c F (St w0 (fun _ => False) m L R) := h.heap (fun w hw => hw.freeze i hi)
/-! ### returns -/
theorem Wx.retV {fn : Func} {t : Tmp} {v : Value} (hr : fn.results = #[.tmp t]) (hv : F.get t = some v) : Wx (bodyPost P fn (PostV m w0 v)) n .ret F (St w0 (fun _ => False) m L R) :=
  Wx.body_ret v hr hv (fun w hw => ⟨rfl, hw.below⟩)
theorem Wx.retV2 {fn : Func} {t u : Tmp} {v1 v2 : Value} (hr : fn.results = #[.tmp t, .tmp u]) (h1 : F.get t = some v1) (h2 : F.get u = some v2) : Wx (bodyPost P fn (PostV m w0 (.tuple #[v1, v2]))) n .ret F (St w0 (fun _ => False) m L R) :=
  Wx.body_ret2 v1 v2 hr h1 h2 (fun w hw => ⟨rfl, hw.below⟩)
theorem Wx.retI {fn : Func} {t : Tmp} {k : IntKind} {a b : Int} (hr : fn.results = #[.tmp t]) (hv : F.get t = some (.int k a)) (he : a = b) : Wx (bodyPost P fn (PostV m w0 (.int k b))) n .ret F (St w0 (fun _ => False) m L R) := he ▸ Wx.retV hr hv
theorem Wx.retB {fn : Func} {t : Tmp} {a b : Bool} (hr : fn.results = #[.tmp t]) (hv : F.get t = some (.bool a)) (he : a = b) : Wx (bodyPost P fn (PostV m w0 (.bool b))) n .ret F (St w0 (fun _ => False) m L R) := he ▸ Wx.retV hr hv
theorem Wx.retO {fn : Func} {t : Tmp} {v : Value} {α : Type} {enc : α → List Value} {e : TypeId} {sz : Nat} {xs : List α} (hr : fn.results = #[.tmp t]) (hv : F.get t = some v) (hL : ∀ w, St w0 (fun _ => False) m L R w → St w0 (fun _ => False) m [rowOf enc v e sz xs] R w) :
    Wx (bodyPost P fn (PostO m w0 enc e sz xs)) n .ret F (St w0 (fun _ => False) m L R) :=
  Wx.body_ret v hr hv (fun w hw => ⟨v, rfl, (hL w hw).imp (fun _ _ => trivial)⟩)
theorem Wx.retR {fn : Func} {t : Tmp} {v : Value} {α : Type} {enc : α → List Value} {e : TypeId} {sz : Nat} {xs : List α} {hl : ∀ x, (enc x).length = sz} {h1 : ∀ x, (enc x).all (·.oneCell') = true} {hp : 0 < sz} (hr : fn.results = #[.tmp t]) (hv : F.get t = some v) (hL : ∀ w, St w0 (fun _ => False) m L R w → St w0 (fun _ => False) m [rowOf enc v e sz xs] R w) :
    Wx (bodyPost P fn (PostR m w0 (Kn.pure enc sz hl h1 hp) xs)) n .ret F (St w0 (fun _ => False) m L R) :=
  Wx.body_ret v hr hv (fun w hw => by
    have h2 := hL w hw
    obtain ⟨A, c, rfl, hc, hrow⟩ := own_row_pure hl h1 hp (h2.get (i := 0) rfl) rfl
    refine ⟨A, c, rfl, hc, (h2.freeze 0 rfl).imp (fun w h => ?_)⟩
    obtain ⟨A', c', he, _, hrow'⟩ := own_row_pure hl h1 hp h.2 rfl
    injection he with he _ _
    subst he
    exact hrow')
theorem Wc.start {c : Code} {w : World} (hr : Ro m w R) (h : Wc P Q n c F (St w (fun _ => False) m [] R)) : Wc P Q n c F (fun w' => w' = w) := h.heap (fun w' e => by subst e; exact St.start hr)
end

end Go.Proofs.YtkffjbijamfnoaaGreat
