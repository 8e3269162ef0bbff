/-
  Records in order.
-/
import Derived.Test.YtkffjbijamfnoaaGreatCmp
import Derived.Test.YtkffjbijamfnoaaGreatShelf
import Derived.Shelf.SlSortCmp.NoneTotal
set_option linter.unusedVariables false
set_option linter.unusedSimpArgs false
namespace Go.Proofs.YtkffjbijamfnoaaGreat
open Go.RowKit

open Go.Sort Go.Proofs
theorem flat_get {α : Type} (enc : α → List Value) (sz : Nat) (hl : ∀ x, (enc x).length = sz) (hp : 0 < sz) (xs : List α) (i : Nat) (hi : i < xs.length * sz) (hq : i / sz < xs.length) : (xs.flatMap enc)[i]? = (enc xs[i / sz])[i % sz]? := by
  have hpart := flat_part enc sz hl xs (i / sz) xs[i / sz] (List.getElem?_eq_getElem hq)
  rw [← hpart, List.getElem?_take, if_pos (Nat.mod_lt _ hp), List.getElem?_drop, Nat.div_add_mod' i sz]
theorem flatK_toList {α : Type} [Inhabited α] (enc : α → List Value) (sz : Nat) (hl : ∀ x, (enc x).length = sz) (hp : 0 < sz) (d : Array α) : (flatK enc sz d).toList = d.toList.flatMap enc := by
  apply List.ext_getElem?
  intro i
  by_cases hi : i < d.size * sz
  · have hq : i / sz < d.toList.length := by rw [Array.length_toList]; exact Nat.div_lt_of_lt_mul (by rw [Nat.mul_comm]; exact hi)
    have hq' : i / sz < d.size := by simpa using hq
    rw [flat_get enc sz hl hp d.toList i (by simpa using hi) hq, Array.getElem?_toList, Array.getElem?_eq_getElem (by simpa using hi), ← getElem!_pos (flatK enc sz d) i (by simpa using hi), get_flatK enc sz d i hi, getElem!_pos d _ hq']
    have hm : i % sz < (enc d[i / sz]).length := by rw [hl]; exact Nat.mod_lt _ hp
    rw [getElem!_pos (enc d[i / sz]) (i % sz) hm, ← List.getElem?_eq_getElem hm, Array.getElem_toList]
  · rw [List.getElem?_eq_none (by simpa using Nat.le_of_not_lt hi), List.getElem?_eq_none (by rw [flat_len enc sz hl, Array.length_toList]; omega)]
theorem putCells_take (F cur : Array Value) (h : F.size ≤ cur.size) : (putCells id 0 F cur).toList.take F.size = F.toList := by
  apply List.ext_getElem?
  intro j
  by_cases hj : j < F.size
  · rw [List.getElem?_take_of_lt hj, Array.getElem?_toList]
    simp [putCells, hj, show j < cur.size by omega]
  · rw [List.getElem?_take_eq_none (by omega), List.getElem?_eq_none (by simp; omega)]
theorem grown_sorted {α : Type} [Inhabited α] {enc : α → List Value} {k g n : Nat} {w : World} {os : Array Obj} (d : Array α) : w.grownBy (sortWorldK enc k w g 0 n d os) (some g) := by
  refine ⟨rfl, rfl, rfl, by simp [sortWorldK, putRowK], fun k hk hne => ?_⟩
  have : g ≠ k := fun e => hne (by rw [e])
  unfold sortWorldK putRowK
  rw [heap_grow_old _ _ (by simpa using hk)]
  simp [putRow, mapBlock, Sort.ahead, Array.getElem?_modify, this]
theorem row_sorted {α : Type} [Inhabited α] {enc : α → List Value} {sz g n c : Nat} {w : World} {os : Array Obj} {e : TypeId} (hl : ∀ x, (enc x).length = sz) (hp : 0 < sz) {xs : List α} (d : Array α) (hd : d.size = xs.length) (hx : (rowOf enc (.slice (some ⟨g, 0, none⟩) xs.length c) e sz xs).holds w) : (rowOf enc (.slice (some ⟨g, 0, none⟩) xs.length c) e sz d.toList).holds (sortWorldK enc sz w g 0 n d os) := by
  obtain ⟨h1, h2⟩ := (show w.ownsRow 0 e sz _ xs.length _ from hx)
  rcases h2 with ⟨h2, _⟩ | ⟨g', cap, cur, hv, hb, hh, hc1, hc2, hc3, hc4⟩
  · cases h2
  simp only [Value.slice.injEq, Option.some.injEq, Addr.mk.injEq, and_true, true_and] at hv
  obtain ⟨rfl, rfl⟩ := hv
  have hg : g < w.heap.size := (Array.getElem?_eq_some_iff.1 hh).1
  have hle : xs.length * sz ≤ c * sz := Nat.mul_le_mul_right _ hc1
  refine (show World.ownsRow _ 0 e sz _ d.toList.length _ from ⟨by rw [flat_len enc sz hl], .inr ⟨g, c, putCells id 0 (flatK enc sz d) cur, by rw [show d.toList.length = xs.length by simpa using hd], Nat.zero_le _, ?_, by rw [Array.length_toList, hd]; exact hc1, hc2, by simp [putCells, hc3], ?_⟩⟩)
  · unfold sortWorldK putRowK
    rw [heap_grow_old _ _ (by simpa using hg)]
    simp [putRow, mapBlock, Sort.ahead, Array.getElem?_modify, hh, onCells]
  · have := putCells_take (flatK enc sz d) cur (by rw [size_flatK, hd, hc3]; exact hle)
    rw [size_flatK, flatK_toList enc sz hl hp] at this
    rw [Array.length_toList]
    exact this
theorem holdsK_row {α : Type} [Inhabited α] {enc : α → List Value} {sz g c : Nat} {w : World} {e : TypeId} (hl : ∀ x, (enc x).length = sz) (hp : 0 < sz) {xs : List α} (hx : (rowOf enc (.slice (some ⟨g, 0, none⟩) xs.length c) e sz xs).holds w) : HoldsK enc sz w g 0 xs.toArray ∧ g < w.heap.size := by
  obtain ⟨h1, h2⟩ := (show w.ownsRow 0 e sz _ xs.length _ from hx)
  rcases h2 with ⟨h2, _⟩ | ⟨g', cap, cur, hv, hb, hh, hc1, hc2, hc3, hc4⟩
  · cases h2
  simp only [Value.slice.injEq, Option.some.injEq, Addr.mk.injEq, and_true, true_and] at hv
  obtain ⟨rfl, rfl⟩ := hv
  refine ⟨fun j hj => ⟨?_, by simp [World.frozen?, hh]⟩, (Array.getElem?_eq_some_iff.1 hh).1⟩
  have hj' : j < xs.length * sz := by simpa using hj
  have hf := flatK_toList enc sz hl hp xs.toArray
  have h3 : (flatK enc sz xs.toArray).toList[j]? = (cur.toList.take (xs.length * sz))[j]? := by rw [hf, hc4]
  rw [List.getElem?_take_of_lt hj', Array.getElem?_toList, Array.getElem?_toList, Array.getElem?_eq_getElem hj] at h3
  rw [getElem!_pos (flatK enc sz xs.toArray) j hj]
  simp only [World.cell?, hh, Nat.zero_add, id]
  simp only [Option.isSome_none, Bool.false_eq_true, if_false]
  exact h3.symm
theorem postW_of {α : Type} {enc : α → List Value} {m : Nat → Prop} {w w' : World} {v : Value} {e : TypeId} {sz : Nat} {ys : List α} (hg : w.grownBy w' v.ownBlock) (hy : (rowOf enc v e sz ys).holds w') : St w (fun b => v.ownBlock = some b) m [rowOf enc v e sz ys] (fun _ => True) w' :=
  ⟨hg.os, hg.tape, hg.output, hg.size, fun k hk hn => hg.block k hk (fun e => hn e.symm), fun x hx => by rw [List.mem_singleton.1 hx]; exact hy, List.pairwise_singleton _ _, fun x hx k hk => by rw [List.mem_singleton.1 hx] at hk; exact .inr hk, Ro.const trivial⟩
theorem srt_of_sorted {α : Type} [Inhabited α] {lt : α → α → Bool} {d : Array α} (h : SortedIn lt 0 d.size d) : Srt lt d.toList := by
  refine List.pairwise_iff_getElem.2 (fun i j hi hj hij => ?_)
  have := h i j (Nat.zero_le _) hij (by simpa using hj)
  rwa [getElem!_pos d j (by simpa using hj), getElem!_pos d i (by simpa using hi)] at this
theorem perm_of_permIn {α : Type} [Inhabited α] {d d' : Array α} (h : PermIn 0 d.size d d') : d'.toList.Perm d.toList := by
  have h2 := h.2.2
  have e : d'.extract 0 d.size = d' := by rw [← h.1]; simp
  rw [e] at h2
  simpa using h2
theorem ltOf_cmpR : ltOf cmpR = lessR := by funext x y; exact cmpR_less x y
theorem sortfunc_calls (m : Nat → Prop) (w : World) (v : Value) (xs : List Rec) (hx : (rowOf eRec v 70 3 xs).holds w) (hlen : xs.length < 4611686018427387904) : Calls Tryz.prog 97 #[v, .func (.func 98) #[] #[]] w (PostW m w eRec v 70 3 (fun ys => ys = sortR xs)) := by
  have hx' := hx
  obtain ⟨h1, h2⟩ := (show w.ownsRow 0 70 3 v xs.length _ from hx)
  rcases h2 with ⟨rfl, h3⟩ | ⟨g, cap, cur, rfl, hb, hh, hc1, hc2, hc3, hc4⟩
  · obtain rfl := List.eq_nil_of_length_eq_zero h3
    have hcon := AnyF.slices_SortFunc_none Tryz.sortR none 0 (.func (.func 98) #[] #[]) w
    refine Calls.mono hcon fun e w' ⟨he, hw⟩ => ?_
    subst hw
    exact ⟨[], he, rfl, postW_of ⟨rfl, rfl, rfl, Nat.le_refl _, fun _ _ _ => rfl⟩ hx'⟩
  · obtain ⟨hH, hblk⟩ := holdsK_row (enc := eRec) (sz := 3) (fun _ => rfl) (by decide) hx'
    have eg : ∀ args w, (callFunc 98 args).run Tryz.prog w = .ok (.enter 98 args) w := enters_of Tryz.func98 (by kernel_rfl) rfl
    have hcmp : CmpLays Tryz.prog 98 #[] eRec 3 cmpR g 0 xs.toArray.size w := fun m os dk _ x y => by
      have := sort1_calls x y (sortWorldK eRec 3 w g 0 m dk os)
      simpa using this
    have hcon := AnyQ.slices_SortFunc Tryz.sortR 3 t70.agg t70.sizeOf eRec (fun _ => rfl) (fun x u hu => List.all_eq_true.1 (show (eRec x).all (·.oneCell') = true from rfl) u hu) cmpR (by rw [ltOf_cmpR]; exact lessR_to.swo) 98 #[] g 0 cap xs.toArray w eg hcmp hH hblk (by simpa using hlen)
    refine Calls.mono hcon fun e w' ⟨he, d', q, os, hp, hs, hw⟩ => ?_
    subst hw
    rw [ltOf_cmpR] at hs
    have hsz : d'.size = xs.length := by rw [hp.1]; simp
    refine ⟨d'.toList, he, ?_, postW_of (grown_sorted d') (row_sorted (enc := eRec) (sz := 3) (fun _ => rfl) (by decide) d' hsz hx')⟩
    refine isort_eq lessR_to (by simpa using perm_of_permIn hp) (srt_of_sorted ?_)
    rw [hsz]
    simpa using hs

theorem clone_recs (m : Nat → Prop) (A : Option Addr) (c : Nat) (l : List Rec) (w : World) (hr : Ro m w (fun w => kRec.Row w A l)) (hc : l.length ≤ c) (hl : l.length * 24 ≤ 140737488351232) :
    Calls Tryz.prog 96 #[.slice A l.length c] w (PostO m w eRec 70 3 l) := by
  refine calls_of_Wc (args := [.slice A l.length c]) 8 Tryz.func96 rfl rfl (by simp) ?_
  refine Wc.start hr ?_
  refine Wc.seq ?_
  refine Wc.region ?_
  refine Wl.assign rfl rfl ?_
  refine Wl.nil ?_
  refine Wx.then_n ?_
  refine Wc.seq ?_
  refine Wc.seq ?_
  refine Wc.region ?_
  refine Wl.move rfl rfl ?_
  refine Wl.eqnil Tryz.underlying59 rfl rfl rfl ?_
  refine Wl.nil ?_
  refine Wx.then_n ?_
  refine Wc.cond rfl (fun h4 => ?_) (fun h4 => ?_)
  ·
    refine Wc.seq ?_
    refine Wc.region ?_
    refine Wl.assign rfl rfl ?_
    refine Wl.nil ?_
    refine Wx.then_n ?_
    refine Wc.ret ?_
    refine Wx.then_r ?_
    obtain rfl := Option.isNone_iff_eq_none.1 h4
    refine Wx.pure (p := l = []) (fun w hw => ?_) (fun e => ?_)
    · by_cases e : l = []
      · exact e
      · obtain ⟨ad, e2⟩ := hw.now.addr e; cases e2
    subst e
    exact Wx.retO rfl rfl (fun w hw => hw.nil 70 3)
  ·
    refine Wc.skip ?_
    refine Wx.then_n ?_
    refine Wc.seq ?_
    refine Wc.region ?_
    refine Wl.slit0 eRec Tryz.underlying59 t70 rfl (fun v5 => ?_)
    refine Wl.move rfl rfl ?_
    refine Wl.appR (enc := eRec) (xs := []) (ys := l) 0 Tryz.underlying59 t70 (fun w h => h) rfl rfl rfl rfl rfl rfl (by simp; omega) (fun v7 => ?_)
    refine Wl.assign rfl rfl ?_
    refine Wl.nil ?_
    refine Wx.then_n ?_
    refine Wc.ret ?_
    exact Wx.retO rfl rfl (fun w hw => hw)

theorem clone_panes (m : Nat → Prop) (A : Option Addr) (c : Nat) (l : List Pane) (w : World) (hr : Ro m w (fun w => kPane.Row w A l)) (hc : l.length ≤ c) (hl : l.length * 32 ≤ 140737488351232) :
    Calls Tryz.prog 189 #[.slice A l.length c] w (PostO m w ePane 166 4 l) := by
  refine calls_of_Wc (args := [.slice A l.length c]) 8 Tryz.func189 rfl rfl (by simp) ?_
  refine Wc.start hr ?_
  refine Wc.seq ?_
  refine Wc.region ?_
  refine Wl.assign rfl rfl ?_
  refine Wl.nil ?_
  refine Wx.then_n ?_
  refine Wc.seq ?_
  refine Wc.seq ?_
  refine Wc.region ?_
  refine Wl.move rfl rfl ?_
  refine Wl.eqnil Tryz.underlying53 rfl rfl rfl ?_
  refine Wl.nil ?_
  refine Wx.then_n ?_
  refine Wc.cond rfl (fun h4 => ?_) (fun h4 => ?_)
  ·
    refine Wc.seq ?_
    refine Wc.region ?_
    refine Wl.assign rfl rfl ?_
    refine Wl.nil ?_
    refine Wx.then_n ?_
    refine Wc.ret ?_
    refine Wx.then_r ?_
    obtain rfl := Option.isNone_iff_eq_none.1 h4
    refine Wx.pure (p := l = []) (fun w hw => ?_) (fun e => ?_)
    · by_cases e : l = []
      · exact e
      · obtain ⟨ad, e2⟩ := hw.now.addr e; cases e2
    subst e
    exact Wx.retO rfl rfl (fun w hw => hw.nil 166 4)
  ·
    refine Wc.skip ?_
    refine Wx.then_n ?_
    refine Wc.seq ?_
    refine Wc.region ?_
    refine Wl.slit0 ePane Tryz.underlying53 t166 rfl (fun v5 => ?_)
    refine Wl.move rfl rfl ?_
    refine Wl.appR (enc := ePane) (xs := []) (ys := l) 0 Tryz.underlying53 t166 (fun w h => h) rfl rfl rfl rfl rfl rfl (by simp; omega) (fun v7 => ?_)
    refine Wl.assign rfl rfl ?_
    refine Wl.nil ?_
    refine Wx.then_n ?_
    refine Wc.ret ?_
    exact Wx.retO rfl rfl (fun w hw => hw)

theorem meansort_calls (m : Nat → Prop) (A : Option Addr) (c : Nat) (l : List Rec) (w : World) (hr : Ro m w (fun w => kRec.Row w A l)) (hc : l.length ≤ c) (hl : l.length * 24 ≤ 140737488351232) :
    Calls Tryz.prog 47 #[.slice A l.length c] w (PostO m w eRec 70 3 (sortR l)) := by
  refine calls_of_Wc (args := [.slice A l.length c]) 9 Tryz.func47 rfl rfl (by simp) ?_
  refine Wc.start hr ?_
  refine Wc.seq ?_
  refine Wc.region ?_
  refine Wl.assign rfl rfl ?_
  refine Wl.nil ?_
  refine Wx.then_n ?_
  refine Wc.seq ?_
  refine Wc.region ?_
  refine Wl.move rfl rfl ?_
  refine Wl.callO [_] Tryz.func96 rfl rfl rfl rfl (fun w hw => clone_recs _ A c l w (hw.read fun w h => h) hc hl) (fun v5 => ?_)
  refine Wl.assign rfl rfl ?_
  refine Wl.nil ?_
  refine Wx.then_n ?_
  refine Wc.seq ?_
  refine Wc.region ?_
  refine Wl.move rfl rfl ?_
  refine Wl.callW 0 [_, .func (.func 98) #[] #[]] Tryz.func97 rfl rfl rfl rfl rfl (fun w hw => sortfunc_calls _ w _ l (hw.get (i := 0) rfl) (by omega)) (fun ys7 hys7 => ?_)
  obtain rfl := hys7
  refine Wl.nil ?_
  refine Wx.then_n ?_
  refine Wc.seq ?_
  refine Wc.region ?_
  refine Wl.move rfl rfl ?_
  refine Wl.assign rfl rfl ?_
  refine Wl.nil ?_
  refine Wx.then_n ?_
  refine Wc.ret ?_
  exact Wx.retO rfl rfl (fun w hw => hw)

end Go.Proofs.YtkffjbijamfnoaaGreat
