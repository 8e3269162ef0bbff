/-
  More of the logic: calls that turn a block of one's own, appends of whole rows, parts of slices, rows of slices, worlds that are known but for draws.
-/
import Derived.Test.YtkffjbijamfnoaaGreatHlRows
import Derived.Test.YtkffjbijamfnoaaGreatHlTypes
import Derived.Sort.Grow
import Derived.Lib.SliceRun
set_option linter.unusedVariables false
set_option linter.unusedSimpArgs false
namespace Go.Proofs.YtkffjbijamfnoaaGreat
open Go.RowKit Go.Sort
section
variable {w0 w w' : World} {m0 m : Nat → Prop} {L : List Blk} {R : World → Prop}
theorem St.own_cells2 {α : Type} {enc : α → List Value} {t : TypeId} {sz n c : Nat} {ad : Addr} {xs : List α} (h : St w0 m0 m L R w) (i : Nat) (hL : L[i]? = some (rowOf enc (.slice (some ad) n c) t sz xs)) (hl : ∀ x, (enc x).length = sz) (h1 : ∀ x, (enc x).all (·.oneCell') = true) (hp : 0 < sz) (j : Nat) (hj : j < xs.length) :
    Cells w (ad.add (j * sz)) (enc xs[j]) := by
  obtain ⟨A, c', e, _, hr⟩ := own_row_pure hl h1 hp (h.get hL) rfl
  injection e with e1 e2 e3
  subst e1
  exact hr.cells j hj
/-- A slice literal of one element: a row of one's own. -/
theorem St.box_row {α : Type} {enc : α → List Value} {sz b : Nat} {cs : List Value} {t : TypeId} (h : St w0 m0 m L R w) (i : Nat) (x : α) (hL : L[i]? = some (.box b cs t)) (hx : enc x = cs) (hl : (enc x).length = sz) : St w0 m0 m (L.set i (rowOf enc (.slice (some ⟨b, 0, none⟩) 1 1) t sz [x])) R w :=
  h.turn hL rfl rfl rfl (Nat.le_refl _) (fun _ _ _ => rfl) (by
    subst hx
    have hh : w.heap[b]? = some (.cells (enc x).toArray t (0, 0)) := h.get hL
    show w.ownsRow 0 t sz _ 1 _
    exact ⟨by simp [hl], .inr ⟨b, 1, _, rfl, Nat.zero_le _, hh, Nat.le_refl _, by simp [maxLen], by simp [hl], by simp [← hl]⟩⟩) (.inl rfl)
/-- What a callee has left that turned one known block, and made others. -/
theorem St.joinT {x y : Blk} {i : Nat} {L' : List Blk} {R' : World → Prop} (h : St w0 m0 m L R w) (hi : L[i]? = some x) (k : St w (fun b => x.block = some b) (Sealed w0 m L) (y :: L') R' w') (hy : y.block = x.block) : St w0 m0 m (L.set i y ++ L') (fun w => R w ∧ R' w) w' := by
  have hxm : x ∈ L := List.mem_of_getElem? hi
  have h1 : St w0 m0 m (L.set i y) R w' := h.turn hi k.os k.tape k.output k.size (fun b hb hne => k.old b hb (fun e => hne e)) (k.live y (by simp)) (.inl hy)
  have ksep := List.pairwise_cons.1 k.sep
  have hnew : ∀ z ∈ L', ∀ q, z.block = some q → w.heap.size ≤ q := fun z hz q hq => by
    rcases k.new z (by simp [hz]) q hq with h2 | h2
    · exact h2
    · exact absurd hq (ksep.1 z hz q (hy.trans h2))
  have h2 : St w0 m0 m (L.set i y ++ L') R w' := by
    refine h.move k.os k.tape k.output ⟨k.size, fun b hb hn => k.old b hb (fun e => hn ⟨x, hxm, e⟩)⟩ (fun z hz => ?_) (List.pairwise_append.2 ⟨h1.sep, ksep.2, fun a ha b hb q hq e => ?_⟩) (fun z hz q hq => ?_)
    · rcases List.mem_append.1 hz with hz | hz
      · exact h1.live z hz
      · exact k.live z (by simp [hz])
    · have hb' := hnew b hb q e
      rcases List.mem_or_eq_of_mem_set ha with ha | rfl
      · have := Blk.lt (h.live a ha) q hq
        omega
      · have := Blk.lt (h.live x hxm) q (hy ▸ hq)
        omega
    · rcases List.mem_append.1 hz with hz | hz
      · rcases List.mem_or_eq_of_mem_set hz with hz | rfl
        · exact .inl ⟨z, hz, hq⟩
        · exact .inl ⟨x, hxm, hy ▸ hq⟩
      · exact .inr (hnew z hz q hq)
  refine { h2 with ro := h2.ro.and (k.ro.mono (fun q hq hm => ?_)) }
  rcases hm with hm | ⟨z, hz, e⟩
  · exact .inl ⟨.inl hm, Nat.lt_of_lt_of_le hm.2 h.size⟩
  · rcases List.mem_append.1 hz with hz | hz
    · rcases List.mem_or_eq_of_mem_set hz with hz | rfl
      · exact .inl ⟨.inr ⟨z, hz, e⟩, Blk.lt (h.live z hz) q e⟩
      · exact .inr ⟨z, by simp, e⟩
    · exact .inr ⟨z, by simp [hz], e⟩
/-- A callee's begin that may turn blocks of the caller's. -/
theorem St.startT {L0 : List Blk} (hl : ∀ x ∈ L0, x.holds w) (hs : L0.Pairwise Blk.apart) (hr : Ro m w R) (hm : ∀ x ∈ L0, ∀ k, x.block = some k → m k) (hm0 : ∀ x ∈ L0, ∀ k, x.block = some k → m0 k) : St w m0 m L0 R w :=
  ⟨rfl, rfl, rfl, Nat.le_refl _, fun _ _ _ => rfl, hl, hs, fun x hx k hk => .inr (hm0 x hx k hk), hr.mono (fun k _ hk => by rcases hk with hk | ⟨x, hx, e⟩; exact hk.1; exact hm x hx k e)⟩
theorem St.start1 {x : Blk} (hx : x.holds w) (hr : Ro m w R) (hm : ∀ k, x.block = some k → m k) : St w (fun b => x.block = some b) m [x] R w :=
  St.startT (fun y hy => by rw [List.mem_singleton.1 hy]; exact hx) (List.pairwise_singleton _ _) hr (fun y hy k hk => by rw [List.mem_singleton.1 hy] at hk; exact hm k hk) (fun y hy k hk => by rw [List.mem_singleton.1 hy] at hk; exact hk)
end
/-- A contract of a callee that turns elder blocks (m0). -/
def PostT {G : Type} (m0 m : Nat → Prop) (w : World) (v : G → Value) (p : G → Prop) (L : G → List Blk) (R : G → World → Prop) (e : Ending) (w' : World) : Prop := ∃ g, e = .returned (v g) ∧ p g ∧ St w m0 m (L g) (R g) w'
/-- A row of one's own that a callee turns. -/
def PostW {α : Type} (m : Nat → Prop) (w : World) (enc : α → List Value) (v : Value) (t : TypeId) (sz : Nat) (p : List α → Prop) (e : Ending) (w' : World) : Prop :=
  PostT (fun b => v.ownBlock = some b) m w (fun _ : List α => .tuple #[]) p (fun xs => [rowOf enc v t sz xs]) (fun _ _ => True) e w'
section
variable {P : Program} {ops : Array Oper} {Q : Exit → Act → World → Prop} {n : Nat} {F : Fr} {rest : List Oper} {d ty : Nat} {pos : String} {af : Array Edge}
variable {w0 : World} {m0 m : Nat → Prop} {L : List Blk} {R : World → Prop}
theorem Wl.callT {f : FuncId} {fn : Func} {args : List Operand} {ats : Array TypeId} {G : Type} {v : G → Value} {p : G → Prop} {y : G → Blk} {L' : G → List Blk} {R' : G → World → Prop} (i : Nat) {x : Blk} (vs : List Value) (hf : P.funcs[f]? = some fn) (hb : fn.body.isNone = false) (hnm : (fn.name == "runtime.NumGoroutine") = false)
    (hx : args.map F.ev = vs.map some) (hn : Nat.blt d n = true) (hL : L[i]? = some x)
    (hc : ∀ w, St w0 m0 m L R w → Calls P f vs.toArray w (PostT (fun b => x.block = some b) (Sealed w0 m L) w v p (fun g => y g :: L' g) R')) (hy : ∀ g, p g → (y g).block = x.block)
    (h : ∀ g, p g → Wl none P ops Q n rest ((d, v g) :: F) (St w0 m0 m (L.set i (y g) ++ L' g) (fun w => R w ∧ R' g w))) :
    Wl none P ops Q n ({ dst := some d, op := .call { callee := .value (.func f), args := args.toArray, argTypes := ats }, type := ty, pos := pos, after := af, guard := none } :: rest) F (St w0 m0 m L R) := by
  refine Wl.call (f := f) (args := vs.toArray) v (fun g w => p g ∧ St w0 m0 m (L.set i (y g) ++ L' g) (fun w => R w ∧ R' g w) w) rfl rfl hn (fun ρ hρ w hw => ?_) (fun w hw => (hc w hw).mono ?_) (fun g a w ho hw => h g hw.1 a w ho hw.2)
  · exact run_call_static hf hb hnm hρ hx w
  · rintro e w' ⟨g, rfl, h1, h2⟩
    exact ⟨g, rfl, h1, hw.joinT hL h2 (hy g h1)⟩
/-- A call that turns the i-th block, a row of one's own. -/
theorem Wl.callW {α : Type} {enc : α → List Value} {f : FuncId} {fn : Func} {args : List Operand} {ats : Array TypeId} {p : List α → Prop} {v : Value} {t : TypeId} {sz : Nat} {xs : List α} (i : Nat) (vs : List Value) (hf : P.funcs[f]? = some fn) (hb : fn.body.isNone = false) (hnm : (fn.name == "runtime.NumGoroutine") = false)
    (hx : args.map F.ev = vs.map some) (hn : Nat.blt d n = true) (hL : L[i]? = some (rowOf enc v t sz xs))
    (hc : ∀ w, St w0 m0 m L R w → Calls P f vs.toArray w (PostW (Sealed w0 m L) w enc v t sz p))
    (h : ∀ ys, p ys → Wl none P ops Q n rest ((d, .tuple #[]) :: F) (St w0 m0 m (L.set i (rowOf enc v t sz ys)) R)) :
    Wl none P ops Q n ({ dst := some d, op := .call { callee := .value (.func f), args := args.toArray, argTypes := ats }, type := ty, pos := pos, after := af, guard := none } :: rest) F (St w0 m0 m L R) :=
  Wl.callT (G := List α) (v := fun _ => .tuple #[]) (p := p) (y := fun ys => rowOf enc v t sz ys) (L' := fun _ => []) (R' := fun _ _ => True) i vs hf hb hnm hx hn hL hc (fun _ _ => rfl) (fun ys hp => (h ys hp).heap (fun w hw => by
    rw [List.append_nil] at hw
    exact hw.imp (fun w h => h.1)))
theorem Wc.startW {α : Type} {enc : α → List Value} {c : Code} {v : Value} {t : TypeId} {sz : Nat} {xs : List α} {w : World} (hx : (rowOf enc v t sz xs).holds w) (hr : Ro m w R) (hm : ∀ k, v.ownBlock = some k → m k) (h : Wc P Q n c F (St w (fun b => v.ownBlock = some b) m [rowOf enc v t sz xs] R)) : Wc P Q n c F (fun w' => w' = w) :=
  h.heap (fun w' e => by subst e; exact St.start1 hx hr hm)
theorem Wx.retW {α : Type} {enc : α → List Value} {fn : Func} {e : Exit} {v : Value} {t : TypeId} {sz : Nat} {ys : List α} {p : List α → Prop} (he : e = .ret ∨ e = .normal) (hr : fn.results = #[]) (hp : p ys) (hL : ∀ w, St w0 (fun b => v.ownBlock = some b) m L R w → St w0 (fun b => v.ownBlock = some b) m [rowOf enc v t sz ys] R w) :
    Wx (bodyPost P fn (PostW m w0 enc v t sz p)) n e F (St w0 (fun b => v.ownBlock = some b) m L R) :=
  Wx.body_none he hr (fun w hw => ⟨ys, rfl, hp, (hL w hw).imp (fun _ _ => trivial)⟩)
theorem Wx.retS {G : Type} {fn : Func} {t : Tmp} {v : G → Value} {p : G → Prop} {L' : G → List Blk} {R' : G → World → Prop} (g : G) (hr : fn.results = #[.tmp t]) (hv : F.get t = some (v g)) (hp : p g) (hL : ∀ w, St w0 m0 m L R w → St w0 m0 m (L' g) (R' g) w) :
    Wx (bodyPost P fn (PostT m0 m w0 v p L' R')) n .ret F (St w0 m0 m L R) := Wx.body_ret (v g) hr hv (fun w hw => ⟨g, rfl, hp, hL w hw⟩)
theorem Wx.retS2 {G : Type} {fn : Func} {t u : Tmp} {v : G → Value} {p : G → Prop} {L' : G → List Blk} {R' : G → World → Prop} (g : G) (v1 v2 : Value) (hr : fn.results = #[.tmp t, .tmp u]) (h1 : F.get t = some v1) (h2 : F.get u = some v2) (he : v g = .tuple #[v1, v2]) (hp : p g) (hL : ∀ w, St w0 m0 m L R w → St w0 m0 m (L' g) (R' g) w) :
    Wx (bodyPost P fn (PostT m0 m w0 v p L' R')) n .ret F (St w0 m0 m L R) := Wx.body_ret2 v1 v2 hr h1 h2 (fun w hw => ⟨g, by rw [he], hp, hL w hw⟩)
theorem Wx.retP {G : Type} {fn : Func} {t : Tmp} {v : G → Value} {p : G → Prop} {L' : G → List Blk} {R' : G → World → Prop} (g : G) (hr : fn.results = #[.tmp t]) (hv : F.get t = some (v g)) (hp : p g) (hL : ∀ w, St w0 (fun _ => False) m L R w → St w0 (fun _ => False) m (L' g) (R' g) w) :
    Wx (bodyPost P fn (Post m w0 v p L' R')) n .ret F (St w0 (fun _ => False) m L R) := Wx.body_ret (v g) hr hv (fun w hw => ⟨g, rfl, hp, hL w hw⟩)
theorem Wx.retP2 {G : Type} {fn : Func} {t u : Tmp} {v : G → Value} {p : G → Prop} {L' : G → List Blk} {R' : G → World → Prop} (g : G) (v1 v2 : Value) (hr : fn.results = #[.tmp t, .tmp u]) (h1 : F.get t = some v1) (h2 : F.get u = some v2) (he : v g = .tuple #[v1, v2]) (hp : p g) (hL : ∀ w, St w0 (fun _ => False) m L R w → St w0 (fun _ => False) m (L' g) (R' g) w) :
    Wx (bodyPost P fn (Post m w0 v p L' R')) n .ret F (St w0 (fun _ => False) m L R) := Wx.body_ret2 v1 v2 hr h1 h2 (fun w hw => ⟨g, by rw [he], hp, hL w hw⟩)
/-! ### appends of whole rows -/
theorem run_append_none (base : Nat) (w : World) (t ty e : TypeId) (i : TypeInfo) (size : Nat) (ht : P.underlying t = some (.slice e)) (hi : P.info? e = some i) (v : Value) (n c : Nat) (xs : List Value) (hown : w.ownsRow base e size v n xs) :
    (Builtin.append_ #[t, t] ty #[v, .slice none 0 c]).run P w = .ok v w := by
  rcases hown.2 with ⟨rfl, rfl⟩ | ⟨g, cap, cur, rfl, _, _, hnc, _⟩
  · simp [Builtin.append_, run_underlying ht, sizeOf, typeInfo, hi, Builtin.lenOf, Builtin.firstCells]
  · simp [Builtin.append_, run_underlying ht, sizeOf, typeInfo, hi, Builtin.lenOf, Builtin.firstCells, hnc, storeCells]
theorem flat_len {α : Type} (enc : α → List Value) (sz : Nat) (hl : ∀ x, (enc x).length = sz) : ∀ (xs : List α), (xs.flatMap enc).length = xs.length * sz
  | [] => by simp
  | x :: xs => by rw [List.flatMap_cons, List.length_append, hl x, flat_len enc sz hl xs, List.length_cons, Nat.add_mul, Nat.one_mul, Nat.add_comm]
/-- append(v, src...): v a row of one's own (the i-th), src read. -/
theorem Wl.appR (i : Nat) {α : Type} {enc : α → List Value} {t e : TypeId} {s x : Operand} {z : Value} {ag : Bool} {sz by_ : Nat} {v : Value} {A : Option Addr} {c : Nat} {xs ys : List α} {hl : ∀ x, (enc x).length = sz} {h1 : ∀ x, (enc x).all (·.oneCell') = true} {hp : 0 < sz} (ht : P.underlying t = some (.slice e)) (hT : TyF P e ag z sz by_)
    (hR : ∀ w, R w → (Kn.pure enc sz hl h1 hp).Row w A ys) (hs : F.ev s = some v) (hx : F.ev x = some (.slice A ys.length c)) (hn : Nat.blt d n = true)
    (hL : L[i]? = some (rowOf enc v e sz xs)) (hz : z.cells.size = sz) (hb0 : Nat.ble 1 by_ = true) (hlim : (xs.length + ys.length) * by_ ≤ 140737488355328)
    (h : ∀ v', Wl none P ops Q n rest ((d, v') :: F) (St w0 m0 m (L.set i (rowOf enc v' e sz (xs ++ ys))) R)) : Wl none P ops Q n ({ dst := some d, op := .call { callee := .builtin .append, args := #[s, x], argTypes := #[t, t] }, type := ty, pos := pos, after := af, guard := none } :: rest) F (St w0 m0 m L R) := by
  have hb0' : 0 < by_ := Nat.le_of_ble_eq_true hb0
  have hlen : xs.length + ys.length ≤ 140737488355328 := Nat.le_trans (Nat.le_mul_of_pos_right _ hb0') hlim
  refine Wl.valw (G := Value) (fun v => v) (fun v' => St w0 m0 m (L.set i (rowOf enc v' e sz (xs ++ ys))) R) rfl rfl hn (fun ρ hρ w hw => ?_) h
  obtain ⟨i0, hi, hzz⟩ := Option.map_eq_some_iff.1 hT.info
  simp only [Prod.mk.injEq] at hzz
  obtain ⟨hz0, hz1, hz2⟩ := hzz
  have hrow : w.ownsRow 0 e sz v xs.length (xs.flatMap enc) := hw.get hL
  have hrd := hR w hw.now
  cases A with
  | none =>
    have hys : ys = [] := by
      by_cases e : ys = []
      · exact e
      · obtain ⟨ad, e2⟩ := hrd.addr e; cases e2
    subst hys
    refine ⟨v, w, by simp [execOp, resolve, invoke, builtin, hρ _ _ hs, hρ _ _ hx, run_append_none (P := P) 0 w t ty e i0 sz ht hi v xs.length c _ hrow], ?_⟩
    rw [List.append_nil]
    have : L.set i (rowOf enc v e sz xs) = L := by
      apply List.ext_getElem?
      intro j
      by_cases ej : i = j
      · subst ej
        rw [List.getElem?_set_self (List.getElem?_eq_some_iff.1 hL).1, hL]
      · rw [List.getElem?_set_ne ej]
    rw [this]
    exact hw
  | some ad =>
    have hnews : ∀ j u, (ys.flatMap enc)[j]? = some u → w.cell? (ad.add j) = some u := by
      intro j u hu
      have hj : j < (ys.flatMap enc).length := (List.getElem?_eq_some_iff.1 hu).1
      have hfl := flat_len enc sz hl ys
      have hq : j / sz < ys.length := Nat.div_lt_of_lt_mul (by rw [Nat.mul_comm]; omega)
      have hc := hrd.cells (j / sz) hq
      have hpart := flat_part enc sz hl ys (j / sz) ys[j / sz] (List.getElem?_eq_getElem hq)
      have hu2 : (enc ys[j / sz])[j % sz]? = some u := by
        rw [← hpart, List.getElem?_take, if_pos (Nat.mod_lt _ hp), List.getElem?_drop, Nat.div_add_mod' j sz]
        exact hu
      have := hc _ _ hu2
      rwa [Addr.add_add', Nat.div_add_mod' j sz] at this
    have hfl := flat_len enc sz hl ys
    obtain ⟨v', w', hr, h2, h3, h4, h5⟩ := run_append_own_at (P := P) w 0 t ty e i0 z sz by_ ht hi hz0 hz1 hz2 hz hp v xs.length _ hrow ad ys.length c (ys.flatMap enc) hfl hnews (fun u hu => by
      obtain ⟨y, _, hy⟩ := List.mem_flatMap.1 hu
      exact List.all_eq_true.1 (h1 y) u hy) (by simp only [maxLen]; omega) hlim (Nat.zero_le _)
    refine ⟨v', w', by simp [execOp, resolve, invoke, builtin, hρ _ _ hs, hρ _ _ hx, hr], ?_⟩
    refine hw.turn hL h3.os h3.tape h3.output h3.size (fun k hk hne => h3.block k hk (fun e => hne e.symm)) ?_ ?_
    · show w'.ownsRow 0 e sz v' (xs ++ ys).length _
      rw [List.length_append, List.flatMap_append]
      exact h2
    · rcases h5 with h5 | h5
      · exact .inl h5
      · exact .inr ⟨_, h5, Nat.le_refl _⟩
/-! ### parts of slices -/
def sliceAddr (A : Option Addr) (l c sz : Nat) : Option Addr := if c = l then A else A.map (·.add (l * sz))
theorem Kn.Row.part {α : Type} {dk : Kn α} {w : World} {A : Option Addr} {xs : List α} {c : Nat} (h : dk.Row w A xs) (l k : Nat) (hl : l ≤ k) (hk : k ≤ xs.length) (hc : xs.length ≤ c) : dk.Row w (sliceAddr A l c dk.sz) ((xs.take k).drop l) := by
  have hlen : ((xs.take k).drop l).length = k - l := by rw [List.length_drop, List.length_take]; omega
  refine ⟨by have := h.1; omega, fun hne => ?_⟩
  have hlt : l < k := by
    rcases Nat.lt_or_ge l k with h1 | h1
    · exact h1
    · exact absurd (List.eq_nil_of_length_eq_zero (by omega)) hne
  obtain ⟨ad, rfl, hcs⟩ := h.2 (by intro e; subst e; simp at hk; omega)
  refine ⟨ad.add (l * dk.sz), by unfold sliceAddr; rw [if_neg (by omega)]; rfl, fun j x hj => ?_⟩
  rw [List.getElem?_drop, List.getElem?_take] at hj
  split at hj
  · obtain ⟨cs, h1, h2⟩ := hcs (l + j) x hj
    refine ⟨cs, h1, ?_⟩
    rw [Addr.add_add', ← Nat.add_mul]
    exact h2
  · cases hj
theorem Wl.resl {md : Option (Bool × (Act → Prop))} {H : World → Prop} {g : Option (Nat × Bool)} {t e : TypeId} {x : Operand} {lo hi : Option Operand} {A : Option Addr} {k c : Nat} {z : Value} {ag : Bool} {sz by_ : Nat} (l h' : Nat) (ht : P.underlying t = some (.slice e)) (hT : TyF P e ag z sz by_) (hx : F.ev x = some (.slice A k c))
    (hlo : match lo with | none => l = 0 | some y => F.ev y = some (.int .i64 (l : Int))) (hhi : match hi with | none => h' = k | some y => F.ev y = some (.int .i64 (h' : Int))) (h1 : l ≤ h') (h2 : h' ≤ c) (hn : Nat.blt d n = true)
    (h : Wl md P ops Q n rest ((d, .slice (sliceAddr A l c sz) (h' - l) (c - l)) :: F) H) (hg : wantedF ops F g = some true := by rfl) :
    Wl md P ops Q n ({ dst := some d, op := .slice t x lo hi none, type := ty, pos := pos, after := af, guard := g } :: rest) F H :=
  Wl.val _ rfl hn (fun ρ hρ w hw => by
    have e1 : (l : Int) ≤ (h' : Int) := by omega
    have e2 : (h' : Int) ≤ (c : Int) := by omega
    cases lo with
    | none =>
      subst hlo
      cases hi with
      | none =>
        subst hhi
        simp [execOp, Instr.sliceAt, Instr.slice, Instr.sliceBounds, hρ _ _ hx, run_underlying ht, hT.sizeOf w, sliceAddr]
      | some y =>
        simp [execOp, Instr.sliceAt, Instr.slice, Instr.sliceBounds, Instr.sliceBound, asIntOf, hρ _ _ hx, hρ _ _ hhi, run_underlying ht, hT.sizeOf w, sliceAddr, h2]
    | some y0 =>
      cases hi with
      | none =>
        subst hhi
        simp [execOp, Instr.sliceAt, Instr.slice, Instr.sliceBounds, Instr.sliceBound, asIntOf, hρ _ _ hx, hρ _ _ hlo, run_underlying ht, hT.sizeOf w, sliceAddr, h1]
      | some y =>
        simp [execOp, Instr.sliceAt, Instr.slice, Instr.sliceBounds, Instr.sliceBound, asIntOf, hρ _ _ hx, hρ _ _ hlo, hρ _ _ hhi, run_underlying ht, hT.sizeOf w, sliceAddr, h1, h2]) h hg
/-! ### nil, empty -/
theorem eqGuard_slice (op : BinOp) (xt : TypeId) (x y : Operand) (A B : Option Addr) (a b c e : Nat) (w : World) : (eqGuard op xt x y (.slice A a b) (.slice B c e)).run P w = .ok () w := by cases op <;> simp [eqGuard]
theorem Wl.eqnil {md : Option (Bool × (Act → Prop))} {H : World → Prop} {g : Option (Nat × Bool)} {xt yt e : TypeId} {x y : Operand} {A : Option Addr} {k c : Nat} (ht : P.underlying xt = some (.slice e)) (hx : F.ev x = some (.slice A k c)) (hy : F.ev y = some (.slice none 0 0)) (hn : Nat.blt d n = true)
    (h : Wl md P ops Q n rest ((d, .bool A.isNone) :: F) H) (hg : wantedF ops F g = some true := by rfl) :
    Wl md P ops Q n ({ dst := some d, op := .binOp .eql xt x y yt, type := ty, pos := pos, after := af, guard := g } :: rest) F H :=
  Wl.bin _ hx hy hn (fun w => eqGuard_slice _ _ _ _ _ _ _ _ _ _ w) (fun w _ => Lib.run_eql_slice_nil w _ _ A k c 0 0 ht) h hg
theorem St.blk {w : World} (h : St w0 m0 m L R w) (o : Obj) (y : Blk) (hy : y.holds (w.alloc o)) (hb : ∀ k, y.block = some k → k = w.heap.size) : St w0 m0 m (L ++ [y]) R (w.alloc o) :=
  h.grow (show World.grownBy w (w.alloc o) none from ⟨rfl, rfl, rfl, by simp, fun k hk _ => Below.heap_alloc w o k hk⟩) y hy (fun k hk => by rw [hb k hk]; exact Nat.le_refl _)
theorem map_range0 (f : Nat → Value) : (Array.range 0).map f = #[] := Array.eq_empty_of_size_eq_zero (by simp)
/-- An empty slice literal: a row of one's own. -/
theorem Wl.slit0 {α : Type} (enc : α → List Value) {t e : TypeId} {z : Value} {ag : Bool} {sz by_ : Nat} (ht : P.underlying t = some (.slice e)) (hT : TyF P e ag z sz by_) (hn : Nat.blt d n = true)
    (h : ∀ v, Wl none P ops Q n rest ((d, v) :: F) (St w0 m0 m (L ++ [rowOf enc v e sz []]) R)) : Wl none P ops Q n ({ dst := some d, op := .buildSlice t 0 #[], type := ty, pos := pos, after := af, guard := none } :: rest) F (St w0 m0 m L R) :=
  Wl.valw (G := Value) (fun v => v) (fun v => St w0 m0 m (L ++ [rowOf enc v e sz []]) R) rfl rfl hn (fun ρ hρ w hw => ⟨.slice (some ⟨w.heap.size, 0, none⟩) 0 0, w.alloc (.cells #[] e), by
    simp [execOp, Instr.buildSlice, run_underlying ht, hT.sizeOf w, Instr.fill, newRow, map_range0], hw.blk _ _ (World.ownsRow_made w #[] 0 (Nat.zero_le _) (Nat.zero_le _) (by simp)) (fun k hk => by
      simp only [Blk.block, Value.ownBlock, Option.some.injEq] at hk
      exact hk.symm)⟩) h
end
section
variable {P : Program} {ops : Array Oper} {Q : Exit → Act → World → Prop} {n : Nat} {F : Fr} {rest : List Oper} {d ty : Nat} {pos : String} {af : Array Edge} {md : Option (Bool × (Act → Prop))} {H : World → Prop} {g : Option (Nat × Bool)}
theorem Wl.conv {s t : TypeId} {x : Operand} {k k2 : IntKind} {a b : Int} (hs : P.underlying s = some (.int k)) (hd : P.underlying t = some (.int k2)) (hx : F.ev x = some (.int k a)) (hw : k2.wrap a = b) (hn : Nat.blt d n = true)
    (h : Wl md P ops Q n rest ((d, .int k2 b) :: F) H) (hg : wantedF ops F g = some true := by rfl) :
    Wl md P ops Q n ({ dst := some d, op := .convert s t x, type := ty, pos := pos, after := af, guard := g } :: rest) F H :=
  Wl.val _ rfl hn (fun ρ hρ w hw' => by
    have hk : P.intKind t = k2 := by simp [Program.intKind, hd]
    have := run_convert_int (P := P) w s t k a (by rw [hs]; rfl) (by rw [hk]; exact hd)
    rw [hk, hw] at this
    simp [execOp, hρ _ _ hx, this]) h hg
theorem Wl.shr1 {xt yt : TypeId} {x y : Operand} {k k2 : IntKind} {a : Int} (hx : F.ev x = some (.int k a)) (hy : F.ev y = some (.int k2 1)) (hk : (1 : Int) ≤ k.bits) (hn : Nat.blt d n = true)
    (h : Wl md P ops Q n rest ((d, .int k (a / 2)) :: F) H) (hg : wantedF ops F g = some true := by rfl) :
    Wl md P ops Q n ({ dst := some d, op := .binOp .shr xt x y yt, type := ty, pos := pos, after := af, guard := g } :: rest) F H :=
  Wl.bin _ hx hy hn (fun w => by simp [eqGuard]) (fun w _ => by simp [binOp, shift_shr k k2 a 1 (by omega) hk]) h hg
end
/-! ### regions that draw their order, some pure operations late -/
section
variable {P : Program} {ops : Array Oper} {md : Region.Mode} {C : World → Prop}
theorem wpAnyH_of_any {Q : Exit → Act → World → Prop} : ∀ (f : Nat) (listed : Array Bool) (a : Act) (w : World), wpAny P md ops Q f listed a w → wpAnyH P md ops Q (fun _ => True) f listed a w
  | 0, _, _, _, h => h
  | f + 1, _, _, _, h => ⟨h.1, fun i hi => wpOp_mono (fun a' w' h' => ⟨trivial, wpAnyH_of_any f _ a' w' h'⟩) (h.2 i hi)⟩
def sinkP (md : Region.Mode) (ops : Array Oper) (n : Nat) (pre : Array Bool) : Bool :=
  (List.range n).all fun i => pre.getD i false || (List.range (n + 1)).any fun j => decide (i < j) && Region.waitsFor md ops j i
structure HeadPre (md : Region.Mode) (ops : Array Oper) (n : Nat) (pre listed : Array Bool) : Prop where
  inv : HeadInv md ops n listed
  pre : ∀ i, pre.getD i false = true → listed.getD i false = true
theorem HeadPre.set {n i : Nat} {pre listed : Array Bool} (h : HeadPre md ops n pre listed) (hi : i ∈ Region.ready md ops listed) (hin : i < n) : HeadPre md ops n pre (listed.setIfInBounds i true) :=
  ⟨h.inv.set hi hin, fun k hk => by
    by_cases e : i = k
    · subst e
      exact getD_set_true (h.pre i hk)
    · rw [getD_set_ne false e]; exact h.pre k hk⟩
theorem tail_waitsP {n : Nat} {pre listed : Array Bool} (hs : sinkP md ops n pre = true) (hc : Region.chainB md ops n = true) (hn : n < ops.size) (H : HeadPre md ops n pre listed) :
    ∀ (d i : Nat), n - i = d → i < n → listed.getD i true = false → ∀ t, n ≤ t → t ∉ Region.ready md ops listed := by
  have inv := H.inv
  intro d
  induction d using Nat.strongRecOn with
  | _ d ih =>
    intro i hd hi hun t ht hr
    obtain ⟨_, ot, hot, hall⟩ := mem_ready.1 hr
    have htlt : t < ops.size := (Array.getElem?_eq_some_iff.1 hot).1
    by_cases htn : t = n
    · subst htn
      have h1 := List.all_eq_true.1 hs i (List.mem_range.2 hi)
      simp only [Bool.or_eq_true] at h1
      rcases h1 with h1 | h1
      · have := H.pre i h1
        rw [getD_both hun] at this
        cases this
      obtain ⟨j, hj, hj2⟩ := List.any_eq_true.1 h1
      simp only [Bool.and_eq_true, decide_eq_true_eq] at hj2
      obtain ⟨oj, hoj, e, he, hb, hon⟩ := Region.waitsFor_spec hj2.2
      have hjle : j ≤ t := by have := List.mem_range.1 hj; omega
      by_cases hjt : j = t
      · subst hjt
        have : oj = ot := Option.some.inj (hoj.symm.trans hot)
        subst this
        have h2 := hall e he hb
        rw [hon, getD_both hun] at h2
        cases h2
      · cases hl : listed.getD j false with
        | true =>
          have h2 := inv.closed j oj hoj hl e he hb
          rw [hon, getD_both hun] at h2
          cases h2
        | false =>
          have hjs : j < listed.size := by rw [inv.size]; omega
          exact ih (t - j) (by omega) j rfl (by omega) (getD_in hjs hl) t (Nat.le_refl _) hr
    · have h1 := List.all_eq_true.1 hc t (List.mem_range.2 htlt)
      simp only [Bool.or_eq_true, decide_eq_true_eq] at h1
      rcases h1 with h1 | h1
      · omega
      · obtain ⟨o', ho', e, he, hb, hon⟩ := Region.waitsFor_spec h1
        have : o' = ot := Option.some.inj (ho'.symm.trans hot)
        subst this
        have h2 := hall e he hb
        rw [hon, getD_both (inv.tail (t - 1) (by omega) (by omega))] at h2
        cases h2
theorem headQ_firstP {n i : Nat} {oi : Oper} {v : Value} {pre : Array Bool} {L : Array Bool → Act → Prop} (hi : ops[i]? = some oi) (hsel : ∀ (j : Nat) (o : Oper) cs b, ops[j]? = some o → o.op ≠ .select cs b)
    (hs : sinkP md ops n pre = true) (hc : Region.chainB md ops n = true) (hn : n < ops.size) (hin : i < n) (hdone : ∀ listed a, L listed a → ∀ j ∈ Region.ready md ops listed, n ≤ j) :
    ∀ (f : Nat) (listed : Array Bool) (a : Act), HeadPre md ops n pre listed →
      (∀ j oj, ops[j]? = some oj → j ≠ i → listed.getD j true = false → (∀ e ∈ oj.after, Region.binds md e = true → e.on ≠ i) → oi.apart ops oj = true) →
      i ∈ Region.ready md ops listed → YieldsIn P ops C oi v a →
      headQ P md ops C n L f (listed.setIfInBounds i true) (a.put oi.dst v) → headQ P md ops C n L (f + 1) listed a := by
  intro f
  induction f with
  | zero =>
    intro listed a inv _ hr hy H
    have hun := (mem_ready.1 hr).1
    refine ⟨fun h => (by rw [h] at hr; cases hr), fun j hj => ?_⟩
    have hjn : j < n := by
      rcases Nat.lt_or_ge j n with h | h
      · exact h
      · exact absurd hj (tail_waitsP hs hc hn inv _ i rfl hin hun j h)
    refine ⟨hjn, ?_⟩
    by_cases hji : j = i
    · subst hji; exact hy.qOp hi H
    · have := hdone _ _ H j (ready_mono hj hji)
      omega
  | succ f ih =>
    intro listed a inv hfree hr hy H
    have hun := (mem_ready.1 hr).1
    refine ⟨fun h => (by rw [h] at hr; cases hr), fun j hj => ?_⟩
    have hjn : j < n := by
      rcases Nat.lt_or_ge j n with h | h
      · exact h
      · exact absurd hj (tail_waitsP hs hc hn inv _ i rfl hin hun j h)
    refine ⟨hjn, ?_⟩
    by_cases hji : j = i
    · subst hji; exact hy.qOp hi H
    · have h1 := (H.2 j (ready_mono hj hji)).2
      obtain ⟨hjun, oj, hoj, hall⟩ := mem_ready.1 hj
      have hnot : ∀ e ∈ oj.after, Region.binds md e = true → e.on ≠ i := fun e he hb heq => by
        have h1 := hall e he hb
        rw [heq, getD_both hun] at h1
        cases h1
      have h2 := qOp_put hoj (hfree j oj hoj hji hjun hnot) (fun cs b => hsel i oi cs b hi) (fun cs b => hsel j oj cs b hoj) hy h1
      have hfree' : ∀ k ok, ops[k]? = some ok → k ≠ i → (listed.setIfInBounds j true).getD k true = false →
          (∀ e ∈ ok.after, Region.binds md e = true → e.on ≠ i) → oi.apart ops ok = true := fun k ok hk hki hun hno => by
        refine hfree k ok hk hki ?_ hno
        by_cases hjk : j = k
        · subst hjk; exact hjun
        · rw [getD_set_ne true hjk] at hun; exact hun
      refine qOp_mono (fun a' h3 => ih (listed.setIfInBounds j true) a' (inv.set hj hjn) hfree' (ready_mono hr (Ne.symm hji)) h3.1 ?_) h2
      rw [Array.setIfInBounds_comm _ _ hji]
      exact h3.2
def headB (md : Region.Mode) (ops : Array Oper) (g n : Nat) : List Nat → Array Bool → Bool
  | [], listed => Region.seqB md ops g n listed
  | i :: is, listed => decide (i < n) && (Region.ready md ops listed).contains i && Region.free md ops listed i && headB md ops g n is (listed.setIfInBounds i true)
theorem headQ_list {l : List Oper} {n g : Nat} {pre : Array Bool} {Lq : Act → Prop} (hsel : Region.noSelect l.toArray = true) (hs : sinkP md l.toArray n pre = true) (hc : Region.chainB md l.toArray n = true) (hn : n < l.toArray.size) :
    ∀ (is : List Nat) (listed : Array Bool) (a : Act), HeadPre md l.toArray n pre listed → headB md l.toArray g n is listed = true → wpQuiet P l.toArray C Lq (pickOps l is) a →
    headQ P md l.toArray C n (fun listed' a' => Region.seqB md l.toArray g n listed' = true ∧ Lq a') is.length listed a
  | [], listed, a, _, hB, h => ⟨hB, h⟩
  | i :: is, listed, a, inv, hB, h => by
    simp only [headB, Bool.and_eq_true, decide_eq_true_eq] at hB
    obtain ⟨⟨⟨hin, hr⟩, hf⟩, hB'⟩ := hB
    have hr' : i ∈ Region.ready md l.toArray listed := by simpa using hr
    cases ho : l[i]? with
    | none => simp [Region.free, ho] at hf
    | some o =>
      have h0 : l.toArray[i]? = some o := by simpa using ho
      simp only [pickOps, ho] at h
      have hst : qOp P l.toArray C i (wpQuiet P l.toArray C Lq (pickOps l is)) a := by unfold qOp; simp only [h0]; exact h
      obtain ⟨v, hy, hK⟩ := yieldsIn_of_qOp h0 hst
      exact headQ_firstP h0 (Region.noSelect_spec hsel) hs hc hn hin (fun listed' a' hL => seqB_ready hL.1) is.length listed a inv (Region.free_spec h0 hf) hr' hy
        (headQ_list hsel hs hc hn is _ _ (inv.set hr' hin) hB' hK)
end
def closedB (md : Region.Mode) (ops : Array Oper) (n : Nat) (listed : Array Bool) : Bool :=
  decide (listed.size = ops.size) && ((List.range ops.size).all fun j => !listed.getD j false || (match ops[j]? with | some oj => oj.after.all fun e => !Region.binds md e || listed.getD e.on false | none => true)) && ((List.range ops.size).all fun t => decide (t < n) || !listed.getD t true)
theorem closedB_spec {md : Region.Mode} {ops : Array Oper} {n : Nat} {listed : Array Bool} (h : closedB md ops n listed = true) : HeadInv md ops n listed := by
  simp only [closedB, Bool.and_eq_true, decide_eq_true_eq, List.all_eq_true, List.mem_range, Bool.or_eq_true, Bool.not_eq_true'] at h
  obtain ⟨⟨h1, h2⟩, h3⟩ := h
  refine ⟨h1, fun j oj hj hl e he hb => ?_, fun t ht hts => ?_⟩
  · have hjs := (Array.getElem?_eq_some_iff.1 hj).1
    rcases h2 j hjs with h4 | h4
    · rw [h4] at hl; cases hl
    · rw [hj] at h4
      have := Array.all_eq_true'.1 h4 e he
      simp only [Bool.or_eq_true, Bool.not_eq_true'] at this
      rcases this with h5 | h5
      · rw [h5] at hb; cases hb
      · exact h5
  · rcases h3 t hts with h4 | h4
    · omega
    · exact h4
section
variable {P : Program} {Q : Exit → Act → World → Prop} {n : Nat} {F : Fr} {H : World → Prop}
/-- Pure operations first (ps), then a quiet head (is), then a fixed tail. -/
theorem Wc.drawp {id : Nat} {l : List Oper} (ps is : List Nat) (k : Nat) (hm : P.follows .mixedOrders = true)
    (hB : (Region.noSelect l.toArray && takeB l.toArray ps (List.replicate l.length false).toArray && sinkP .any l.toArray k (takeTo ps (List.replicate l.length false).toArray) && Region.chainB .any l.toArray k && decide (k < l.length) && closedB .any l.toArray k (takeTo ps (List.replicate l.length false).toArray) && headB .any l.toArray (l.length - k) k is (takeTo ps (List.replicate l.length false).toArray) && decide (is.length + (l.length - k) + ps.length = l.length)) = true)
    (hd : ∀ w, H w → H { w with drawn := w.drawn + 1 })
    (h : Wl (some (true, fun a => wpQuiet P l.toArray H (fun a' => ∀ w', H w' → wpList P l.toArray (NoPanic Q) (l.drop k) a' w') (pickOps l is) a)) P l.toArray Q n (pickOps l ps) F (fun _ => True)) : Wc P Q n (.region id l.toArray true) F H := by
  simp only [Bool.and_eq_true, decide_eq_true_eq] at hB
  obtain ⟨⟨⟨⟨⟨⟨⟨b1, b2⟩, b3⟩, b4⟩, b5⟩, b6⟩, b7⟩, b8⟩ := hB
  have hn : k < l.toArray.size := by simpa using b5
  refine fun a w ho hw => wp_region_noPanic (wp_region_held (S := fun _ => True) hm ?_)
  have key := wpAnyH_takes (P := P) (Q := Q) (S := fun _ => True) b1 ps (is.length + (l.length - k)) (List.replicate l.length false).toArray a { w with drawn := w.drawn + 1 } trivial b2
  rw [b8] at key
  have hsz : l.toArray.size = l.length := by simp
  have hlist : (Array.replicate l.toArray.size false) = (List.replicate l.length false).toArray := by simp
  rw [hsz, show (Array.replicate l.length false) = (List.replicate l.length false).toArray by simp]
  refine key ?_
  have mono : ∀ (l' : List Oper) (a : Act), stillL P l.toArray (fun _ => True) (fun a => wpQuiet P l.toArray H (fun a' => ∀ w', H w' → wpList P l.toArray (NoPanic Q) (l.drop k) a' w') (pickOps l is) a) l' a →
      stillL P l.toArray (fun _ => True) (fun a' => ∀ w', (fun _ => True) w' → w' = { w with drawn := w.drawn + 1 } → wpAnyH P .any l.toArray (NoPanic Q) (fun _ => True) (is.length + (l.length - k)) (takeTo ps (List.replicate l.length false).toArray) a' w') l' a := by
    intro l'
    induction l' with
    | nil =>
      intro a hq w' _ e
      subst e
      refine wpAnyH_of_any _ _ _ _ ?_
      have H1 := headQ_list (P := P) (C := H) (md := .any) (g := l.length - k) b1 b3 b4 hn is _ a ⟨closedB_spec b6, fun i hi => hi⟩ b7 hq
      refine wpAny_of_headQ (g := l.length - k) (fun listed a' w' hw' hL => ?_) _ _ _ _ (hd w hw) H1
      have := wpAny_of_seq (md := .any) (Q' := NoPanic Q) (l.drop k) k listed a' w' (fun j => by simp [List.getElem?_drop]) (by rw [List.length_drop]; exact hL.1) (hL.2 w' hw')
      rwa [List.length_drop] at this
    | cons o l' ih => rintro a ⟨v, hy, h⟩; exact ⟨v, hy, ih _ h⟩
  exact mono _ _ (h a ho)
/-- A region that draws its order, branched over. -/
def Wb (P : Program) (ops : Array Oper) (Q : Exit → Act → World → Prop) (n : Nat) (f : Nat) (listed : Array Bool) (F : Fr) (H : World → Prop) : Prop := ∀ a w, F.ok n a → H w → wpAny P .any ops (NoPanic Q) f listed a w
def EffB (P : Program) (ops : Array Oper) (Q : Exit → Act → World → Prop) (f : Nat) (listed : Array Bool) : Exit → Act → World → Prop
  | .normal, a, w => wpAny P .any ops (NoPanic Q) f listed a w
  | e, a, w => NoPanic Q e a w
theorem Wb.start {id : Nat} {l : List Oper} (ps : List Nat) (k : Nat) (hm : P.follows .mixedOrders = true) (hd : ∀ w, H w → H { w with drawn := w.drawn + 1 }) (hB : (Region.noSelect l.toArray && takeB l.toArray ps (List.replicate l.length false).toArray && decide (k + ps.length = l.length)) = true)
    (h : Wl (some (true, fun a => ∀ w, H w → wpAny P .any l.toArray (NoPanic Q) k (takeTo ps (List.replicate l.length false).toArray) a w)) P l.toArray Q n (pickOps l ps) F (fun _ => True)) : Wc P Q n (.region id l.toArray true) F H := by
  simp only [Bool.and_eq_true, decide_eq_true_eq] at hB
  obtain ⟨⟨b1, b2⟩, b3⟩ := hB
  refine fun a w ho hw => wp_region_noPanic (wp_region_held (S := fun _ => True) hm ?_)
  have key := wpAnyH_takes (P := P) (Q := Q) (S := fun _ => True) b1 ps k (List.replicate l.length false).toArray a { w with drawn := w.drawn + 1 } trivial b2
  rw [b3] at key
  rw [show l.toArray.size = l.length by simp, show (Array.replicate l.length false) = (List.replicate l.length false).toArray by simp]
  refine key ?_
  have mono : ∀ (l' : List Oper) (a : Act), stillL P l.toArray (fun _ => True) (fun a => ∀ w, H w → wpAny P .any l.toArray (NoPanic Q) k (takeTo ps (List.replicate l.length false).toArray) a w) l' a →
      stillL P l.toArray (fun _ => True) (fun a' => ∀ w', (fun _ => True) w' → w' = { w with drawn := w.drawn + 1 } → wpAnyH P .any l.toArray (NoPanic Q) (fun _ => True) k (takeTo ps (List.replicate l.length false).toArray) a' w') l' a := by
    intro l'
    induction l' with
    | nil =>
      intro a hq w' _ e
      subst e
      exact wpAnyH_of_any _ _ _ _ (hq _ (hd w hw))
    | cons o l' ih => rintro a ⟨v, hy, h⟩; exact ⟨v, hy, ih _ h⟩
  exact mono _ _ (h a ho)
theorem Wl.nilw {ops : Array Oper} {k : Nat} {listed : Array Bool} (h : Wb P ops Q n k listed F H) : Wl (some (true, fun a => ∀ w, H w → wpAny P .any ops (NoPanic Q) k listed a w)) P ops Q n [] F (fun _ => True) := fun a ho w hw => h a w ho hw
theorem Wl.nilb {ops : Array Oper} {k : Nat} {listed : Array Bool} (h : Wb P ops Q n k listed F H) : Wl none P ops (EffB P ops Q k listed) n [] F H := fun a w ho hw => h a w ho hw
theorem wpOp_of_list {l : List Oper} {f i : Nat} {listed : Array Bool} {o : Oper} (ho : l[i]? = some o) {a : Act} {w : World} (h1 : wpList P l.toArray (EffB P l.toArray Q f listed) [o] a w) : wpOp P l.toArray (NoPanic Q) i (fun a' w' => wpAny P .any l.toArray (NoPanic Q) f listed a' w') a w := by
  unfold wpOp
  simp only [show l.toArray[i]? = some o by simpa using ho]
  simp only [wpList] at h1
  split
  · rename_i hwn
    rw [if_pos hwn] at h1
    rcases h1 with h1 | ⟨h3, h2⟩
    · exact .inl (wp_eff (fun _ _ _ h => h) h1 (fun _ h _ => h))
    · exact .inr ⟨h3, h2⟩
  · rename_i hwn
    rw [if_neg hwn] at h1
    exact h1
theorem Wb.one {l : List Oper} {f : Nat} {listed : Array Bool} (i : Nat) {o : Oper} (ho : l[i]? = some o) (hr : Region.ready .any l.toArray listed = [i])
    (h : Wl none P l.toArray (EffB P l.toArray Q f (listed.setIfInBounds i true)) n [o] F H) : Wb P l.toArray Q n (f + 1) listed F H := fun a w hok hw =>
  ⟨fun h0 => by (rw [hr] at h0; cases h0), fun q hq => by
    rw [hr] at hq
    obtain rfl := List.mem_singleton.1 hq
    exact wpOp_of_list ho (h a w hok hw)⟩
theorem Wb.two {l : List Oper} {f : Nat} {listed : Array Bool} (i j : Nat) {o o2 : Oper} (ho : l[i]? = some o) (ho2 : l[j]? = some o2) (hr : Region.ready .any l.toArray listed = [i, j])
    (h : Wl none P l.toArray (EffB P l.toArray Q f (listed.setIfInBounds i true)) n [o] F H) (h2 : Wl none P l.toArray (EffB P l.toArray Q f (listed.setIfInBounds j true)) n [o2] F H) : Wb P l.toArray Q n (f + 1) listed F H := fun a w hok hw =>
  ⟨fun h0 => by (rw [hr] at h0; cases h0), fun q hq => by
    rw [hr] at hq
    rcases List.mem_cons.1 hq with rfl | hq
    · exact wpOp_of_list ho (h a w hok hw)
    · obtain rfl := List.mem_singleton.1 hq
      exact wpOp_of_list ho2 (h2 a w hok hw)⟩
theorem Wb.done {ops : Array Oper} {f : Nat} {listed : Array Bool} (hr : Region.ready .any ops listed = []) (h : Wx Q n .normal F H) : Wb P ops Q n f listed F H := fun a w ho hw => by
  cases f with
  | zero => exact ⟨hr, h a w ho hw⟩
  | succ f => exact ⟨fun _ => h a w ho hw, by rw [hr]; simp⟩
theorem Wl.nilp {ops : Array Oper} {K : Act → Prop} {head : List Oper} (h : Wl (some (false, K)) P ops Q n head F H) : Wl (some (true, fun a => wpQuiet P ops H K head a)) P ops Q n [] F (fun _ => True) := fun a ho => h a ho
theorem Wx.nopanic (h : Wx Q n .normal F H) : Wx (NoPanic Q) n .normal F H := fun a w ho hw => h a w ho hw
end
/-! ### rows of slices -/
abbrev Sl := Option Addr × Nat × Nat
def eSl (p : Sl) : List Value := [.slice p.1 p.2.1 p.2.2]
/-- What lies behind a row of slices. -/
def Inner {α : Type} (dk : Kn α) (w : World) (ps : List Sl) (xss : List (List α)) : Prop :=
  ps.length = xss.length ∧ ∀ (j : Nat) (p : Sl) (xs : List α), ps[j]? = some p → xss[j]? = some xs → p.2.1 = xs.length ∧ xs.length ≤ p.2.2 ∧ dk.Row w p.1 xs
theorem Inner.set {α : Type} {dk : Kn α} {w : World} {ps : List Sl} {xss : List (List α)} (h : Inner dk w ps xss) (i : Nat) (p : Sl) (xs : List α) (hp : p.2.1 = xs.length ∧ xs.length ≤ p.2.2 ∧ dk.Row w p.1 xs) : Inner dk w (ps.set i p) (xss.set i xs) := by
  refine ⟨by rw [List.length_set, List.length_set]; exact h.1, fun j q ys h1 h2 => ?_⟩
  by_cases e : i = j
  · subst e
    rw [List.getElem?_set_self' ] at h1 h2
    cases hp1 : ps[i]? with
    | none => rw [hp1] at h1; cases h1
    | some a =>
      cases hp2 : xss[i]? with
      | none => rw [hp2] at h2; cases h2
      | some b =>
        rw [hp1] at h1
        rw [hp2] at h2
        cases h1
        cases h2
        exact hp
  · rw [List.getElem?_set_ne e] at h1 h2
    exact h.2 j q ys h1 h2
theorem Inner.nils {α : Type} (dk : Kn α) (w : World) (k : Nat) : Inner dk w (List.replicate k (none, 0, 0)) (List.replicate k []) := by
  refine ⟨by simp, fun j p xs h1 h2 => ?_⟩
  rw [List.getElem?_replicate] at h1 h2
  split at h1
  · rw [if_pos (by assumption)] at h2
    cases h1
    cases h2
    exact ⟨rfl, Nat.le_refl _, by simp, fun h => absurd rfl h⟩
  · cases h1
theorem Inner.snoc {α : Type} {dk : Kn α} {w : World} {ps : List Sl} {xss : List (List α)} (h : Inner dk w ps xss) (p : Sl) (xs : List α) (hp : p.2.1 = xs.length ∧ xs.length ≤ p.2.2 ∧ dk.Row w p.1 xs) : Inner dk w (ps ++ [p]) (xss ++ [xs]) := by
  refine ⟨by rw [List.length_append, List.length_append, h.1]; rfl, fun j q ys h1 h2 => ?_⟩
  rcases Nat.lt_trichotomy j ps.length with hj | hj | hj
  · rw [List.getElem?_append_left hj] at h1
    rw [List.getElem?_append_left (by rw [← h.1]; exact hj)] at h2
    exact h.2 j q ys h1 h2
  · subst hj
    rw [List.getElem?_concat_length] at h1
    rw [h.1, List.getElem?_concat_length] at h2
    cases h1
    cases h2
    exact hp
  · rw [List.getElem?_eq_none (by rw [List.length_append, List.length_singleton]; omega)] at h1
    cases h1
theorem Inner.row {α : Type} {dk : Kn α} {w : World} {A : Option Addr} {t : TypeId} {n c : Nat} {ps : List Sl} {xss : List (List α)} (h : Inner dk w ps xss) (ho : (rowOf eSl (.slice A n c) t 1 ps).holds w) : dk.slice.Row w A xss := by
  obtain ⟨A', c', e, _, hrow⟩ := own_row_pure (enc := eSl) (sz := 1) (fun _ => rfl) (fun _ => rfl) (by decide) ho rfl
  injection e with e1 e2 e3
  subst e1
  refine ⟨by rw [← h.1]; exact hrow.1, fun hne => ?_⟩
  have hne' : ps ≠ [] := fun e => hne (List.eq_nil_of_length_eq_zero (by rw [← h.1, e]; rfl))
  obtain ⟨ad, rfl, hcs⟩ := hrow.2 hne'
  refine ⟨ad, rfl, fun j xs hj => ?_⟩
  have hlt : j < ps.length := by rw [h.1]; exact (List.getElem?_eq_some_iff.1 hj).1
  obtain ⟨cs, e1, e2⟩ := hcs j ps[j] (List.getElem?_eq_getElem hlt)
  obtain ⟨i1, i2, i3⟩ := h.2 j ps[j] xs (List.getElem?_eq_getElem hlt) hj
  refine ⟨cs, ⟨ps[j].1, ps[j].2.2, ?_, i2, i3⟩, e2⟩
  rw [show cs = eSl ps[j] from e1]
  unfold eSl
  rw [i1]
/-! ### worlds that are known but for draws and blocks behind -/
def XW (w0 : World) (os : Array Obj) (w : World) : Prop := ∃ q, w = grow (w0.drewN q) os
theorem XW.drew {w0 w : World} {os : Array Obj} (h : XW w0 os w) : XW w0 os { w with drawn := w.drawn + 1 } := by
  obtain ⟨q, rfl⟩ := h
  exact ⟨q + 1, by simp [grow, World.drewN, Nat.add_assoc]⟩
theorem XW.start (w : World) : XW w #[] w := ⟨0, by simp [grow, World.drewN]⟩
theorem XW.size {w0 w : World} {os : Array Obj} (h : XW w0 os w) : w.heap.size = w0.heap.size + os.size := by
  obtain ⟨q, rfl⟩ := h
  simp [grow, World.drewN]
theorem XW.alloc {w0 w : World} {os : Array Obj} (h : XW w0 os w) (o : Obj) : XW w0 (os.push o) (w.alloc o) := by
  obtain ⟨q, rfl⟩ := h
  exact ⟨q, by simp [grow, World.drewN, World.alloc]⟩
theorem XW.cells {w0 w : World} {os : Array Obj} (h : XW w0 os w) (i : Nat) {cs : List Value} {t : TypeId} (hi : os[i]? = some (.cells cs.toArray t (0, 0))) : Cells w ⟨w0.heap.size + i, 0, none⟩ cs := by
  obtain ⟨q, rfl⟩ := h
  refine Blk.box_cells (t := t) ?_
  show (w0.heap ++ os)[w0.heap.size + i]? = _
  rw [Array.getElem?_append_right (by omega), Nat.add_sub_cancel_left]
  exact hi
section
variable {P : Program} {ops : Array Oper} {Q : Exit → Act → World → Prop} {n : Nat} {F : Fr} {rest : List Oper} {d ty : Nat} {pos : String} {af : Array Edge} {w0 : World} {os : Array Obj}
theorem Wl.valX {o : Oper} (mk : Nat → Value) (ob : Obj) (hg : o.guard = none) (hd : o.dst = some d) (hn : Nat.blt d n = true) (hr : ∀ ρ : Operand → Value, (∀ x y, F.ev x = some y → ρ x = y) → ∀ w, XW w0 os w → (execOp ρ o).run P w = .ok (.value (mk w.heap.size)) (w.alloc ob))
    (h : Wl none P ops Q n rest ((d, mk (w0.heap.size + os.size)) :: F) (XW w0 (os.push ob))) : Wl none P ops Q n (o :: rest) F (XW w0 os) :=
  Wl.valw (G := Unit) (fun _ => mk (w0.heap.size + os.size)) (fun _ => XW w0 (os.push ob)) hg hd hn (fun ρ hρ w hw => ⟨(), _, by rw [hr ρ hρ w hw, hw.size], hw.alloc ob⟩) (fun _ => h)
theorem Wl.boxX {t : TypeId} {x : Operand} {v : Value} {cs : List Value} (hx : F.ev x = some v) (hn : Nat.blt d n = true) (hz : v.cells = cs.toArray)
    (h : Wl none P ops Q n rest ((d, .pointer (some ⟨w0.heap.size + os.size, 0, none⟩)) :: F) (XW w0 (os.push (.cells cs.toArray t)))) : Wl none P ops Q n ({ dst := some d, op := .box t x, type := ty, pos := pos, after := af, guard := none } :: rest) F (XW w0 os) :=
  Wl.valX (fun b => .pointer (some ⟨b, 0, none⟩)) (.cells cs.toArray t) rfl rfl hn (fun ρ hρ w hw => by simp [execOp, Instr.box, hρ _ _ hx, newVar, newRow, hz]) h
theorem Wl.slitX {t e : TypeId} {len : Nat} {parts : List (Nat × Operand)} {z : Value} {ag : Bool} {sz by_ : Nat} (vs : List (Nat × Value)) (cs : List Value) (ht : P.underlying t = some (.slice e)) (hT : TyF P e ag z sz by_) (hx : parts.map (fun p => (p.1, F.ev p.2)) = vs.map (fun p => (p.1, some p.2))) (hn : Nat.blt d n = true)
    (hs : Nat.ble 1 (len * sz) = true) (hs2 : Nat.ble (len * sz) 16777216 = true) (hf : Instr.fill (fun i => some (i * sz, sz)) ((Array.range (len * sz)).map (z.cells[· % z.cells.size]!)) vs = some cs.toArray)
    (h : Wl none P ops Q n rest ((d, .slice (some ⟨w0.heap.size + os.size, 0, none⟩) len len) :: F) (XW w0 (os.push (.cells cs.toArray e)))) : Wl none P ops Q n ({ dst := some d, op := .buildSlice t len parts.toArray, type := ty, pos := pos, after := af, guard := none } :: rest) F (XW w0 os) :=
  Wl.valX (fun b => .slice (some ⟨b, 0, none⟩) len len) (.cells cs.toArray e) rfl rfl hn (fun ρ hρ w hw => by
    have h1 : 1 ≤ len * sz := Nat.le_of_ble_eq_true hs
    have h2 : len * sz ≤ 16777216 := Nat.le_of_ble_eq_true hs2
    have h3 : ¬ len * sz = 0 := by omega
    have h4 : ¬ 16777216 < len * sz := by omega
    have h5 : (parts.toArray.map fun x => (x.1, ρ x.2)).toList = vs := by rw [← ev_parts hρ parts vs hx]; simp
    simp only [execOp, Instr.buildSlice, Sem.run_bind, run_underlying ht, Result.andThen_ok, hT.sizeOf w, h5]
    simp [h3, h4, newRow, hT.zero w, hf]) h
/-- A call that leaves the world alone. -/
theorem Wl.callE {md : Option (Bool × (Act → Prop))} {H : World → Prop} {g : Option (Nat × Bool)} {f : FuncId} {fn : Func} {args : List Operand} {ats : Array TypeId} {v : Value} (vs : List Value) (hf : P.funcs[f]? = some fn) (hb : fn.body.isNone = false) (hnm : (fn.name == "runtime.NumGoroutine") = false)
    (hx : args.map F.ev = vs.map some) (hn : Nat.blt d n = true) (hc : ∀ w, H w → Calls P f vs.toArray w (fun e w' => e = .returned v ∧ w' = w))
    (h : Wl md P ops Q n rest ((d, v) :: F) H) (hg : wantedF ops F g = some true := by rfl) (hmd : callsMd md = true := by rfl) :
    Wl md P ops Q n ({ dst := some d, op := .call { callee := .value (.func f), args := args.toArray, argTypes := ats }, type := ty, pos := pos, after := af, guard := g } :: rest) F H := by
  refine Wl.callq (f := f) (args := vs.toArray) v rfl hn (fun ρ hρ w hw => run_call_static hf hb hnm hρ hx w) (fun w hw => (hc w hw).mono ?_) h hg hmd
  rintro e w' ⟨h1, rfl⟩
  exact ⟨h1, hw⟩
end
end Go.Proofs.YtkffjbijamfnoaaGreat
