/-
  Rows of one's own: made, indexed, written.
-/
import Derived.Test.YtkffjbijamfnoaaGreatSpec
import Derived.Laws.OwnMore
set_option linter.unusedVariables false
set_option linter.unusedSimpArgs false
namespace Go.Proofs.YtkffjbijamfnoaaGreat
open Go.RowKit
section
variable {w0 w w' : World} {m0 m : Nat → Prop} {L : List Blk} {R : World → Prop}
theorem St.grow (h : St w0 m0 m L R w) (hg : w.grownBy w' none) (y : Blk) (hy : y.holds w') (hyb : ∀ k, y.block = some k → w.heap.size ≤ k) : St w0 m0 m (L ++ [y]) R w' := by
  refine h.move hg.os hg.tape hg.output ⟨hg.size, fun k hk _ => hg.block k hk (by simp)⟩ (fun x hx => ?_) ?_ (fun x hx k hk => ?_)
  · rcases List.mem_append.1 hx with hx | hx
    · exact Blk.keep (h.live x hx) (fun k hk => hg.block k (Blk.lt (h.live x hx) k hk) (by simp))
    · obtain rfl := List.mem_singleton.1 hx
      exact hy
  · refine List.pairwise_append.2 ⟨h.sep, List.pairwise_singleton _ _, fun x hx y' hy' k hk e => ?_⟩
    obtain rfl := List.mem_singleton.1 hy'
    have := Blk.lt (h.live x hx) k hk
    have := hyb k e
    omega
  · rcases List.mem_append.1 hx with hx | hx
    · exact .inl ⟨x, hx, hk⟩
    · obtain rfl := List.mem_singleton.1 hx
      exact .inr (hyb k hk)
/-- Everything that is known, for one that turns nothing. -/
theorem St.readall (h : St w0 m0 m L R w) {R' : World → Prop} (hr : ∀ w, R w → (∀ x ∈ L, x.holds w) → R' w) : Ro (fun _ => False) w R' := fun W hW =>
  hr W (h.ro W (hW.mono (fun _ _ e => e.elim))) (fun x hx => Blk.keep (h.live x hx) (fun k hk => hW.2 k (Blk.lt (h.live x hx) k hk) (fun e => e)))
theorem St.own_cells {α : Type} {enc : α → List Value} {t : TypeId} {sz n c : Nat} {ad : Addr} {xs : List α} (h : St w0 m0 m L R w) (i : Nat) (hL : L[i]? = some (.row (.slice (some ad) n c) t sz n (xs.flatMap enc))) (hn : xs.length = n) (hl : ∀ x, (enc x).length = sz) (h1 : ∀ x, (enc x).all (·.oneCell') = true) (hp : 0 < sz) (j : Nat) (hj : j < xs.length) :
    Cells w (ad.add (j * sz)) (enc xs[j]) := by
  obtain ⟨A, c', e, _, hr⟩ := own_row_pure hl h1 hp (h.get hL) hn
  injection e with e1 e2 e3
  subst e1
  exact hr.cells j hj
end
theorem flatMap_set {α : Type} (enc : α → List Value) (sz : Nat) (hl : ∀ x, (enc x).length = sz) : ∀ (xs : List α) (j : Nat) (hj : j < xs.length) (y : α) (o : Nat) (vs : List Value), (enc xs[j]).take o ++ vs ++ (enc xs[j]).drop (o + vs.length) = enc y → o + vs.length ≤ sz →
    (xs.flatMap enc).take (j * sz + o) ++ vs ++ (xs.flatMap enc).drop (j * sz + o + vs.length) = (xs.set j y).flatMap enc
  | x :: xs, 0, _, y, o, vs, he, ho => by
    have h1 := hl x
    simp only [List.getElem_cons_zero] at he
    rw [List.set_cons_zero, List.flatMap_cons, List.flatMap_cons, ← he, Nat.zero_mul, Nat.zero_add, List.take_append_of_le_length (by omega), List.drop_append_of_le_length (by omega)]
    simp
  | x :: xs, j + 1, hj, y, o, vs, he, ho => by
    have h1 := hl x
    have := flatMap_set enc sz hl xs j (by simpa using hj) y o vs (by simpa using he) ho
    rw [List.set_cons_succ, List.flatMap_cons, List.flatMap_cons, ← this, show (j + 1) * sz + o = (enc x).length + (j * sz + o) by rw [Nat.add_mul]; omega, List.take_length_add_append, show (enc x).length + (j * sz + o) + vs.length = (enc x).length + (j * sz + o + vs.length) by omega, List.drop_length_add_append]
    simp
theorem take_mid {α : Type} (cl vs : List α) (q K : Nat) (h : q + vs.length ≤ K) (hl : q ≤ cl.length) : (cl.take q ++ vs ++ cl.drop (q + vs.length)).take K = (cl.take K).take q ++ vs ++ (cl.take K).drop (q + vs.length) := by
  have e : (cl.take q ++ vs).length = q + vs.length := by rw [List.length_append, List.length_take, Nat.min_eq_left hl]
  conv => lhs; rw [show K = (cl.take q ++ vs).length + (K - (q + vs.length)) by omega]
  rw [List.take_length_add_append, List.take_take, Nat.min_eq_left (by omega), List.drop_take]
section
variable {P : Program} {ops : Array Oper} {Q : Exit → Act → World → Prop} {n : Nat} {F : Fr} {rest : List Oper} {d ty : Nat} {pos : String} {af : Array Edge}
variable {w0 : World} {m0 m : Nat → Prop} {L : List Blk} {R : World → Prop}
theorem Wl.mk {α : Type} {enc : α → List Value} {t e : TypeId} {x y : Operand} {k : Nat} {z : Value} {ag : Bool} {by_ : Nat} (x0 : α) (ht : P.underlying t = some (.slice e)) (hT : TyF P e ag z 1 by_) (hx : F.ev x = some (.int .i64 (k : Int))) (hy : F.ev y = some (.int .i64 (k : Int))) (hn : Nat.blt d n = true)
    (hz : z.cells = #[z]) (h0 : enc x0 = [z]) (hb : by_ * k ≤ 281474976710656) (hk : k ≤ 9223372036854775807) (h : ∀ v, Wl none P ops Q n rest ((d, v) :: F) (St w0 m0 m (L ++ [rowOf enc v e 1 (List.replicate k x0)]) R)) :
    Wl none P ops Q n ({ dst := some d, op := .makeSlice t x y, type := ty, pos := pos, after := af, guard := none } :: rest) F (St w0 m0 m L R) :=
  Wl.valw (G := Value) (fun v => v) (fun v => St w0 m0 m (L ++ [rowOf enc v e 1 (List.replicate k x0)]) R) rfl rfl hn (fun ρ hρ w hw => by
    obtain ⟨i, hi, he⟩ := Option.map_eq_some_iff.1 hT.info
    simp only [Prod.mk.injEq] at he
    obtain ⟨hz0, hs, hby⟩ := he
    obtain ⟨w', hr, ho, hg⟩ := run_make_full (P := P) w 0 t e i z 1 ht hi hz0 hs .i64 .i64 k (by rw [hby]; exact hb) (by simpa [maxLen] using hk) (Nat.zero_le _)
    refine ⟨_, w', by simp [execOp, hρ _ _ hx, hρ _ _ hy, hr]; rfl, hw.grow hg _ ?_ (fun k' hk' => ?_)⟩
    · show w'.ownsRow 0 e 1 _ _ _
      have e1 : (List.replicate k x0).flatMap enc = (madeCells z.cells (k * 1)).toList := by
        rw [hz, Nat.mul_one, toList_madeCells_one]
        induction k with
        | zero => rfl
        | succ k ih => rw [List.replicate_succ, List.flatMap_cons, h0]; simp [List.replicate_succ, List.flatMap_replicate, h0]
      rw [e1, List.length_replicate]
      exact ho
    · simp only [Blk.block, Value.ownBlock, Option.some.injEq] at hk'
      omega) h
/-- The form of a row's slice. -/
theorem St.form {w : World} (hw : St w0 m0 m L R w) (i : Nat) {v : Value} {e : TypeId} {sz k : Nat} {cs : List Value} (hL : L[i]? = some (.row v e sz k cs)) : ∃ p : Option Addr × Nat, v = .slice p.1 k p.2 ∧ k ≤ p.2 ∧ (0 < k → ∃ g, p.1 = some ⟨g, 0, none⟩) := by
  obtain ⟨h1, h2⟩ := (show w.ownsRow 0 e sz v k cs from hw.get hL)
  rcases h2 with ⟨rfl, rfl⟩ | ⟨g, cap, cur, rfl, _, _, hc, _⟩
  · exact ⟨(none, 0), rfl, Nat.le_refl _, fun h => absurd h (by omega)⟩
  · exact ⟨(some ⟨g, 0, none⟩, cap), rfl, hc, fun _ => ⟨g, rfl⟩⟩
theorem Wc.form {c : Code} (i : Nat) {v : Value} {e : TypeId} {sz k : Nat} {cs : List Value} (hL : L[i]? = some (.row v e sz k cs))
    (h : ∀ A cp, v = .slice A k cp → k ≤ cp → (0 < k → ∃ g, A = some ⟨g, 0, none⟩) → Wc P Q n c F (St w0 m0 m L R)) : Wc P Q n c F (St w0 m0 m L R) := fun a w ho hw =>
  let ⟨p, h1, h2, h3⟩ := hw.form i hL; h p.1 p.2 h1 h2 h3 a w ho hw
theorem Wl.form {l : List Oper} (i : Nat) {v : Value} {e : TypeId} {sz k : Nat} {cs : List Value} (hL : L[i]? = some (.row v e sz k cs))
    (h : ∀ A cp, v = .slice A k cp → k ≤ cp → (0 < k → ∃ g, A = some ⟨g, 0, none⟩) → Wl none P ops Q n l F (St w0 m0 m L R)) : Wl none P ops Q n l F (St w0 m0 m L R) := fun a w ho hw =>
  let ⟨p, h1, h2, h3⟩ := hw.form i hL; h p.1 p.2 h1 h2 h3 a w ho hw
/-- Loads, by what is known of the cells. -/
theorem Wl.loadh {md : Option (Bool × (Act → Prop))} {H : World → Prop} {t : TypeId} {x : Operand} {p a : Addr} {j : Nat} {cs : List Value} {u z : Value} {sz by_ : Nat} {g : Option (Nat × Bool)} (hT : TyF P t false z sz by_) (hR : ∀ w, H w → Cells w a cs) (hx : F.ev x = some (.pointer (some p))) (hn : Nat.blt d n = true) (hp : p = a.add j) (hu : cs[j]? = some u)
    (h : Wl md P ops Q n rest ((d, u) :: F) H) (hg : wantedF ops F g = some true := by rfl) :
    Wl md P ops Q n ({ dst := some d, op := .load t x, type := ty, pos := pos, after := af, guard := g } :: rest) F H :=
  Wl.load_at hT hx hn (fun w hw => hp ▸ hR w hw j u hu) h hg
theorem Wl.loadhs {md : Option (Bool × (Act → Prop))} {H : World → Prop} {t : TypeId} {x : Operand} {p a : Addr} {j : Nat} {cs vs : List Value} {z : Value} {sz by_ : Nat} {g : Option (Nat × Bool)} (hT : TyF P t true z sz by_) (hR : ∀ w, H w → Cells w a cs) (hx : F.ev x = some (.pointer (some p))) (hn : Nat.blt d n = true) (hp : p = a.add j) (hu : (cs.drop j).take sz = vs) (hl : vs.length = sz)
    (h : Wl md P ops Q n rest ((d, .agg vs.toArray) :: F) H) (hg : wantedF ops F g = some true := by rfl) :
    Wl md P ops Q n ({ dst := some d, op := .load t x, type := ty, pos := pos, after := af, guard := g } :: rest) F H :=
  Wl.loads_at hT hx hn hl (fun w hw => by have := (hR w hw).part j sz; rw [hu] at this; exact hp ▸ this) h hg
/-- A store into the j-th element of the i-th row, o cells into it. -/
theorem Wl.storeo (i j o : Nat) {α : Type} {enc : α → List Value} {t e : TypeId} {x y : Operand} {gb c k esz : Nat} {p : Addr} {v z : Value} {ag : Bool} {sz by_ : Nat} {xs : List α} {vs : List Value} (x1 : α) (hT : TyF P t ag z sz by_) (hx : F.ev x = some (.pointer (some p))) (hy : F.ev y = some v)
    (hL : L[i]? = some (.row (.slice (some ⟨gb, 0, none⟩) k c) e esz k (xs.flatMap enc))) (hk : xs.length = k) (hle : ∀ x, (enc x).length = esz) (hv : v.cells = vs.toArray) (hl : vs.length = sz) (h1 : vs.all (·.oneCell') = true) (hj : j < xs.length) (hp : p = ⟨gb, j * esz + o, none⟩)
    (ho : o + vs.length ≤ esz) (he : (enc xs[j]).take o ++ vs ++ (enc xs[j]).drop (o + vs.length) = enc x1)
    (h : Wl none P ops Q n rest F (St w0 m0 m (L.set i (.row (.slice (some ⟨gb, 0, none⟩) k c) e esz k ((xs.set j x1).flatMap enc))) R)) : Wl none P ops Q n ({ dst := none, op := .store t x y, type := ty, pos := pos, after := af, guard := none } :: rest) F (St w0 m0 m L R) :=
  Wl.act (G := Unit) (fun _ => St w0 m0 m (L.set i (.row (.slice (some ⟨gb, 0, none⟩) k c) e esz k ((xs.set j x1).flatMap enc))) R) rfl rfl (fun ρ hρ w hw => by
    obtain ⟨q1, q2⟩ := (show w.ownsRow 0 e esz _ k _ from hw.get hL)
    rcases q2 with ⟨q, _⟩ | ⟨g', cap, cur, hsl, _, hb, hc1, hc2, hc3, hc4⟩
    · cases q
    simp only [Value.slice.injEq, Option.some.injEq, Addr.mk.injEq, and_true, true_and] at hsl
    obtain ⟨rfl, rfl⟩ := hsl
    subst hp
    subst hl
    have hlt : (j + 1) * esz ≤ k * esz := Nat.mul_le_mul_right _ (by omega)
    have hcap : k * esz ≤ c * esz := Nat.mul_le_mul_right _ hc1
    have hlt' : j * esz + esz ≤ k * esz := by rw [← Nat.succ_mul]; exact hlt
    have hrun := run_storeCells_at (P := P) gb (j * esz + o) e vs 0 cur w hb (by omega) (fun u hu => List.all_eq_true.1 h1 u hu)
    rw [Nat.add_zero] at hrun
    refine ⟨(), w.setRow gb (cur.toList.take (j * esz + o) ++ vs ++ cur.toList.drop (j * esz + o + vs.length)).toArray, by simp [execOp, Instr.storeAt, Instr.sureAddr, storeVar, hρ _ _ hx, hρ _ _ hy, hv, hT.sizeOf w, hrun], ?_⟩
    refine hw.turn hL rfl rfl rfl (by simp [World.setRow]) (fun k' hk' hne => setRow_other _ _ _ _ (fun e => hne (by rw [e]; rfl))) ?_ (.inl rfl)
    have hset := setRow_heap w gb cur (cur.toList.take (j * esz + o) ++ vs ++ cur.toList.drop (j * esz + o + vs.length)).toArray e (0, 0) hb
    have hfs := flatMap_set enc esz hle xs j hj x1 o vs he ho
    have hlen : ((xs.set j x1).flatMap enc).length = k * esz := by
      rw [← hfs]
      simp only [List.length_append, List.length_take, List.length_drop, q1]
      omega
    have hcl : cur.toList.length = c * esz := by rw [Array.length_toList]; exact hc3
    refine (show World.ownsRow _ 0 e esz _ k _ from ⟨hlen, .inr ⟨gb, c, _, rfl, Nat.zero_le _, hset, hc1, hc2, ?_, ?_⟩⟩)
    · simp only [List.size_toArray, List.length_append, List.length_take, List.length_drop, hcl]
      omega
    · rw [← hfs, ← hc4]
      exact take_mid _ _ _ _ (by omega) (by omega)) (fun _ => h)
theorem Wl.storee (i j o : Nat) {α : Type} {enc : α → List Value} {t e : TypeId} {x y : Operand} {gb c k esz : Nat} {p : Addr} {v z : Value} {ag : Bool} {sz by_ : Nat} {xs : List α} {vs : List Value} (x1 : α) (hT : TyF P t ag z sz by_) (hx : F.ev x = some (.pointer (some p))) (hy : F.ev y = some v)
    (hL : L[i]? = some (rowOf enc (.slice (some ⟨gb, 0, none⟩) k c) e esz xs)) (hk : xs.length = k) (hle : ∀ x, (enc x).length = esz) (hv : v.cells = vs.toArray) (hl : vs.length = sz) (h1 : vs.all (·.oneCell') = true) (hj : j < xs.length) (hp : p = ⟨gb, j * esz + o, none⟩)
    (ho : o + vs.length ≤ esz) (he : (enc xs[j]).take o ++ vs ++ (enc xs[j]).drop (o + vs.length) = enc x1)
    (h : Wl none P ops Q n rest F (St w0 m0 m (L.set i (rowOf enc (.slice (some ⟨gb, 0, none⟩) k c) e esz (xs.set j x1))) R)) : Wl none P ops Q n ({ dst := none, op := .store t x y, type := ty, pos := pos, after := af, guard := none } :: rest) F (St w0 m0 m L R) := by
  subst hk
  refine Wl.storeo i j o x1 hT hx hy hL rfl hle hv hl h1 hj hp ho he ?_
  simp only [rowOf, List.length_set] at h
  exact h
theorem addr_at (g q : Nat) : (⟨g, 0, none⟩ : Addr).add q = ⟨g, q, none⟩ := by unfold Addr.add; split <;> simp_all
theorem addr_at2 (g q o : Nat) : ((⟨g, 0, none⟩ : Addr).add q).add o = ⟨g, q + o, none⟩ := by rw [Addr.add_add', addr_at]
/-! ### results that lie in cells -/
theorem run_results_cell {fn : Func} {a : Tmp} {t : TypeId} {z : Value} {sz by_ b : Nat} {cs : List Value} {tmps : Array Value} {w : World} (hr : fn.results = #[.cell a t]) (hT : TyF P t true z sz by_) (ha : tmps.getD a undef = .pointer (some ⟨b, 0, none⟩)) (hl : cs.length = sz) (hc : Cells w ⟨b, 0, none⟩ cs) :
    (results fn tmps).run P w = .ok (.agg cs.toArray) w := by
  have ha' : tmps[a]?.getD undef = .pointer (some ⟨b, 0, none⟩) := by simpa using ha
  simp [results, hr, ha', asAddr, run_loadVar_agg hT hl hc]
theorem run_results_cell2 {fn : Func} {a u : Tmp} {t : TypeId} {z : Value} {sz by_ b : Nat} {cs : List Value} {tmps : Array Value} {w : World} (hr : fn.results = #[.cell a t, .tmp u]) (hT : TyF P t true z sz by_) (ha : tmps.getD a undef = .pointer (some ⟨b, 0, none⟩)) (hl : cs.length = sz) (hc : Cells w ⟨b, 0, none⟩ cs) :
    (results fn tmps).run P w = .ok (.tuple #[.agg cs.toArray, tmps.getD u undef]) w := by
  have ha' : tmps[a]?.getD undef = .pointer (some ⟨b, 0, none⟩) := by simpa using ha
  simp [results, hr, ha', asAddr, run_loadVar_agg hT hl hc]
theorem Wx.retC {fn : Func} {a : Tmp} {t t' : TypeId} {z : Value} {sz by_ b : Nat} {cs : List Value} (i : Nat) (hT : TyF P t true z sz by_) (hr : fn.results = #[.cell a t]) (ha : F.get a = some (.pointer (some ⟨b, 0, none⟩))) (hL : L[i]? = some (.box b cs t')) (hl : cs.length = sz) :
    Wx (bodyPost P fn (PostV m w0 (.agg cs.toArray))) n .ret F (St w0 (fun _ => False) m L R) := fun x w ho hw =>
  ⟨ho.1, _, run_results_cell hr hT (Fr.ok_ev ho (x := .tmp a) ha) hl (Blk.box_cells (hw.get hL)), rfl, hw.below⟩
theorem Wx.retC2 {fn : Func} {a u : Tmp} {t t' : TypeId} {z v : Value} {sz by_ b : Nat} {cs : List Value} (i : Nat) (hT : TyF P t true z sz by_) (hr : fn.results = #[.cell a t, .tmp u]) (ha : F.get a = some (.pointer (some ⟨b, 0, none⟩))) (hu : F.get u = some v) (hL : L[i]? = some (.box b cs t')) (hl : cs.length = sz) :
    Wx (bodyPost P fn (PostV m w0 (.tuple #[.agg cs.toArray, v]))) n .ret F (St w0 (fun _ => False) m L R) := fun x w ho hw =>
  ⟨ho.1, _, run_results_cell2 hr hT (Fr.ok_ev ho (x := .tmp a) ha) hl (Blk.box_cells (hw.get hL)), by have := Fr.ok_ev ho (x := .tmp u) hu; exact ⟨by rw [show x.tmps.getD u undef = v from this], hw.below⟩⟩
end
end Go.Proofs.YtkffjbijamfnoaaGreat
