/-
  Panes in order: the library's stable sort.
-/
import Derived.Test.YtkffjbijamfnoaaGreatSortR
set_option linter.unusedVariables false
set_option linter.unusedSimpArgs false
namespace Go.Proofs.YtkffjbijamfnoaaGreat
open Go.RowKit

open Go.Sort
theorem below_grow {w w' : World} (h : ∃ q os, w' = Go.Sort.grow (w.drewN q) os) : Below w.heap.size w w' := by
  obtain ⟨q, os, rfl⟩ := h
  exact ⟨rfl, rfl, rfl, by simp [Go.Sort.grow, World.drewN], fun k hk => by
    show (w.heap ++ os)[k]? = _
    rw [Array.getElem?_append_left hk]⟩
theorem order_callsV (m : Nat → Prop) (x y : Pane) (w : World) : Calls Tryz.prog 196 #[.agg (ePane x).toArray, .agg (ePane y).toArray] w (PostV m w (.int .i64 (cmpP x y))) :=
  Calls.mono (order1_calls x y w) fun e w' ⟨h1, h2⟩ => ⟨h1, below_grow h2⟩
theorem cmpP_neg {x y : Pane} : cmpP x y < 0 ↔ lessP x y = true := by rw [← cmpP_less, decide_eq_true_eq]
theorem cmpP_nneg {x y : Pane} (h : ¬ cmpP x y < 0) : lessP x y = false := by rw [← cmpP_less, decide_eq_false h]
theorem swp_list (d : Array Pane) (i j : Nat) (hi : i < d.toList.length) (hj : j < d.toList.length) : (d.toList.set i d.toList[j]).set j d.toList[i] = (swp d i j).toList := by
  have h1 : i < d.size := by simpa using hi
  have h2 : j < d.size := by simpa using hj
  unfold swp
  rw [Array.toList_setIfInBounds, Array.toList_setIfInBounds, getElem!_pos d j h2, getElem!_pos d i h1]
  rfl
theorem at_list (d : Array Pane) (i : Nat) (hi : i < d.toList.length) : d.toList[i] = d[i]! := by
  rw [getElem!_pos d i (by simpa using hi)]; rfl

theorem swaprange_calls (m : Nat → Prop) (w : World) (v : Value) (d : Array Pane) (hx : (rowOf ePane v 166 4 d.toList).holds w) (hm : ∀ k, v.ownBlock = some k → m k) (hsz : d.size ≤ 4398046511104) (a b n : Nat) (h1 : a + n ≤ b) (h2 : b + n ≤ d.size) :
    Calls Tryz.prog 240 #[v, .int .i64 a, .int .i64 b, .int .i64 n, .func (.func 196) #[] #[]] w (PostW m w ePane v 166 4 (fun ys => ys = (swpR d a b n).toList)) := by
  refine calls_of_Wc (args := [v, .int .i64 a, .int .i64 b, .int .i64 n, .func (.func 196) #[] #[]]) 38 Tryz.func240 rfl rfl (by simp) ?_
  refine Wc.startW hx (Ro.const trivial : Ro m w (fun _ => True)) hm ?_
  refine Wc.form 0 rfl (fun A cp e hcp hA => ?_)
  subst e
  rw [Array.length_toList] at hcp hA
  rw [Array.length_toList]
  refine Wc.seq ?_
  refine Wc.region ?_
  refine Wl.assign rfl rfl ?_
  refine Wl.nil ?_
  refine Wx.then_n ?_
  refine Wc.block ?_
  refine Wc.loopS (G := Nat) (fun g => match g with | k => [(0, .slice A d.size cp), (1, .int .i64 a), (2, .int .i64 b), (3, .int .i64 n), (4, .func (.func 196) #[] #[]), (10, .int .i64 k)]) (fun g => match g with | k => k ≤ n) (fun g => match g with | k => [rowOf ePane (.slice A d.size cp) 166 4 (swpR d a b k).toList]) (fun g => match g with | k => fun _ => True) (fun g => match g with | k => n - k) 0 ⟨rfl, rfl, rfl, rfl, rfl, rfl, trivial⟩ (Nat.zero_le _) (fun w hw => hw) ?_
  rintro k hk0
  dsimp only
  refine Wc.seq ?_
  refine Wc.seq ?_
  refine Wc.region ?_
  refine Wl.move rfl rfl ?_
  refine Wl.move rfl rfl ?_
  refine Wl.lss rfl rfl rfl ?_
  refine Wl.nil ?_
  refine Wx.then_n ?_
  refine Wc.condp rfl (fun h13 => ?_) (fun h13 => ?_)
  ·
    have hk : k < n := by omega
    have hd1 : (swpR d a b k).size = d.size := swpR_size d a b k
    obtain ⟨g, rfl⟩ := hA (by omega)
    refine Wc.skip ?_
    refine Wx.then_n ?_
    refine Wc.seq ?_
    refine Wc.block ?_
    refine Wc.drawp [4, 5, 6, 7] [0, 1, 2, 3, 8, 9, 10, 11, 12, 13, 14, 15, 16, 17, 18, 19, 20] 21 mixed (by kernel_rfl) (fun w hw => hw.drew) ?_
    refine Wl.move rfl rfl ?_
    refine Wl.move rfl rfl ?_
    refine Wl.move rfl rfl ?_
    refine Wl.add rfl rfl rfl (by omega) ?_
    refine Wl.nilp ?_
    refine Wl.move rfl rfl ?_
    refine Wl.move rfl rfl ?_
    refine Wl.move rfl rfl ?_
    refine Wl.add rfl rfl rfl (by omega) ?_
    refine Wl.move rfl rfl ?_
    refine Wl.move rfl rfl ?_
    refine Wl.move rfl rfl ?_
    refine Wl.add rfl rfl rfl (by omega) ?_
    refine Wl.idx (j := (b + k)) Tryz.underlying53 t166 rfl rfl rfl (by omega) ?_
    refine Wl.loads_at (cs := (ePane ((swpR d a b k).toList[b + k]'(by simp [hd1]; omega)))) t166 rfl rfl rfl (fun w hw => St.own_cells2 (enc := ePane) (sz := 4) hw 0 rfl (fun _ => rfl) (fun _ => rfl) (by decide) (b + k) (by simp [hd1]; omega)) ?_
    refine Wl.move rfl rfl ?_
    refine Wl.move rfl rfl ?_
    refine Wl.move rfl rfl ?_
    refine Wl.add rfl rfl rfl (by omega) ?_
    refine Wl.idx (j := (a + k)) Tryz.underlying53 t166 rfl rfl rfl (by omega) ?_
    refine Wl.loads_at (cs := (ePane ((swpR d a b k).toList[a + k]'(by simp [hd1]; omega)))) t166 rfl rfl rfl (fun w hw => St.own_cells2 (enc := ePane) (sz := 4) hw 0 rfl (fun _ => rfl) (fun _ => rfl) (by decide) (a + k) (by simp [hd1]; omega)) ?_
    refine Wl.idx (j := (a + k)) Tryz.underlying53 t166 rfl rfl rfl (by omega) ?_
    refine Wl.nilt ?_
    refine Wl.storee 0 (a + k) 0 (((swpR d a b k).toList[b + k]'(by simp [hd1]; omega))) t166 rfl rfl rfl (by simp [hd1]) (fun _ => rfl) rfl rfl rfl (by simp [hd1]; omega) (addr_at _ _) (Nat.le_of_ble_eq_true rfl) rfl ?_
    refine Wl.idx (j := (b + k)) Tryz.underlying53 t166 rfl rfl rfl (by omega) ?_
    refine Wl.storee 0 (b + k) 0 (((swpR d a b k).toList[a + k]'(by simp [hd1]; omega))) t166 rfl rfl rfl (by simp [hd1]) (fun _ => rfl) rfl rfl rfl (by simp [hd1]; omega) (addr_at _ _) (Nat.le_of_ble_eq_true rfl) rfl ?_
    refine Wl.nil ?_
    refine Wx.nopanic ?_
    refine Wx.block_n ?_
    refine Wx.then_n ?_
    refine Wc.region ?_
    refine Wl.move rfl rfl ?_
    refine Wl.add rfl rfl rfl (by omega) ?_
    refine Wl.assign rfl rfl ?_
    refine Wl.nil ?_
    exact Wx.againS (k + 1) (by omega) ⟨rfl, rfl, rfl, rfl, rfl, rfl, trivial⟩ hk (fun w hw => by have := swp_list (swpR d a b k) (a + k) (b + k) (by simp [hd1]; omega) (by simp [hd1]; omega); simp only [List.set] at hw; rw [this] at hw; exact hw)
  ·
    refine Wc.exit ?_
    refine Wx.then_e ?_
    refine Wx.then_e ?_
    refine Wx.block_e ?_
    obtain rfl : k = n := by omega
    exact Wx.retW (.inr rfl) rfl rfl (fun w hw => hw)

theorem swaprange_at (m : Nat → Prop) (w : World) (v : Value) (d : Array Pane) (hx : (rowOf ePane v 166 4 d.toList).holds w) (hm : ∀ k, v.ownBlock = some k → m k) (hsz : d.size ≤ 4398046511104) (a b n : Nat) (x y z : Int) (e1 : x = a) (e2 : y = b) (e3 : z = n) (h1 : a + n ≤ b) (h2 : b + n ≤ d.size) :
    Calls Tryz.prog 240 #[v, .int .i64 x, .int .i64 y, .int .i64 z, .func (.func 196) #[] #[]] w (PostW m w ePane v 166 4 (fun ys => ys = (swpR d a b n).toList)) := by
  subst e1 e2 e3
  exact swaprange_calls m w v d hx hm hsz a b n h1 h2

theorem rotate_calls (m : Nat → Prop) (w : World) (v : Value) (d : Array Pane) (hx : (rowOf ePane v 166 4 d.toList).holds w) (hm : ∀ k, v.ownBlock = some k → m k) (hsz : d.size ≤ 4398046511104) (a mm b : Nat) (h1 : a < mm) (h2 : mm < b) (h3 : b ≤ d.size) :
    Calls Tryz.prog 239 #[v, .int .i64 a, .int .i64 mm, .int .i64 b, .func (.func 196) #[] #[]] w (PostW m w ePane v 166 4 (fun ys => Rot a mm b d ys.toArray)) := by
  refine calls_of_Wc (args := [v, .int .i64 a, .int .i64 mm, .int .i64 b, .func (.func 196) #[] #[]]) 58 Tryz.func239 rfl rfl (by simp) ?_
  refine Wc.startW hx (Ro.const trivial : Ro m w (fun _ => True)) hm ?_
  refine Wc.form 0 rfl (fun A cp e hcp hA => ?_)
  subst e
  rw [Array.length_toList] at hcp hA
  rw [Array.length_toList]
  refine Wc.seq ?_
  refine Wc.region ?_
  refine Wl.move rfl rfl ?_
  refine Wl.move rfl rfl ?_
  refine Wl.sub rfl rfl rfl (by omega) ?_
  refine Wl.assign rfl rfl ?_
  refine Wl.nil ?_
  refine Wx.then_n ?_
  refine Wc.seq ?_
  refine Wc.region ?_
  refine Wl.move rfl rfl ?_
  refine Wl.move rfl rfl ?_
  refine Wl.sub rfl rfl rfl (by omega) ?_
  refine Wl.assign rfl rfl ?_
  refine Wl.nil ?_
  refine Wx.then_n ?_
  refine Wc.seq ?_
  refine Wc.block ?_
  refine Wc.loopS (G := Nat × Nat × Array Pane) (fun g => match g with | ⟨i, j, e⟩ => [(0, .slice A d.size cp), (1, .int .i64 a), (2, .int .i64 mm), (3, .int .i64 b), (4, .func (.func 196) #[] #[]), (10, .int .i64 i), (11, .int .i64 j)]) (fun g => match g with | ⟨i, j, e⟩ => (0 < i ∧ 0 < j ∧ i ≤ mm ∧ mm + j ≤ d.size) ∧ e.size = d.size ∧ ∀ d', Rot (mm - i) mm (mm + j) e d' → Rot a mm b d d') (fun g => match g with | ⟨i, j, e⟩ => [rowOf ePane (.slice A d.size cp) 166 4 (e).toList]) (fun g => match g with | ⟨i, j, e⟩ => fun _ => True) (fun g => match g with | ⟨i, j, e⟩ => i + j) ⟨mm - a, b - mm, d⟩ ⟨rfl, rfl, rfl, rfl, rfl, congrArg (fun z => some (Value.int .i64 z)) (by omega), congrArg (fun z => some (Value.int .i64 z)) (by omega), trivial⟩ ⟨by (try dsimp only); omega, rfl, fun d' h => by (try dsimp only at h); (rw [show mm - (mm - a) = a by omega, show mm + (b - mm) = b by omega] at h; exact h)⟩ (fun w hw => hw) ?_
  rintro ⟨i, j, e⟩ ⟨hij, hes, hrot⟩
  dsimp only
  refine Wc.seq ?_
  refine Wc.seq ?_
  refine Wc.region ?_
  refine Wl.move rfl rfl ?_
  refine Wl.move rfl rfl ?_
  refine Wl.neq rfl rfl rfl ?_
  refine Wl.nil ?_
  refine Wx.then_n ?_
  refine Wc.condp rfl (fun h20 => ?_) (fun h20 => ?_)
  ·
    refine Wc.skip ?_
    refine Wx.then_n ?_
    refine Wc.block ?_
    refine Wc.seq ?_
    refine Wc.region ?_
    refine Wl.move rfl rfl ?_
    refine Wl.move rfl rfl ?_
    refine Wl.gtr rfl rfl rfl ?_
    refine Wl.nil ?_
    refine Wx.then_n ?_
    refine Wc.condp rfl (fun h23 => ?_) (fun h23 => ?_)
    ·
      refine Wc.seq ?_
      refine Wc.region ?_
      refine Wl.move rfl rfl ?_
      refine Wl.move rfl rfl ?_
      refine Wl.move rfl rfl ?_
      refine Wl.sub rfl rfl rfl (by omega) ?_
      refine Wl.move rfl rfl ?_
      refine Wl.move rfl rfl ?_
      refine Wl.move rfl rfl ?_
      refine Wl.callW 0 [_, _, _, _, .func (.func 196) #[] #[]] Tryz.func240 rfl rfl rfl rfl rfl (fun w hw => swaprange_at _ w _ (e) (hw.get (i := 0) rfl) (fun k hk => .inr ⟨_, List.mem_of_getElem? (i := 0) rfl, hk⟩) (by omega) (mm - i) (mm) (j) _ _ _ (by omega) (by omega) (by omega) (by omega) (by omega)) (fun ys31 hys31 => ?_)
      obtain rfl := hys31
      refine Wl.nil ?_
      refine Wx.then_n ?_
      refine Wc.region ?_
      refine Wl.move rfl rfl ?_
      refine Wl.move rfl rfl ?_
      refine Wl.sub rfl rfl rfl (by omega) ?_
      refine Wl.assign rfl rfl ?_
      refine Wl.nil ?_
      refine Wx.block_n ?_
      exact Wx.againS ⟨i - j, j, swpR e (mm - i) mm j⟩ (by (try dsimp only); omega) ⟨rfl, rfl, rfl, rfl, rfl, congrArg (fun z => some (Value.int .i64 z)) (by omega), rfl, trivial⟩ ⟨(show 0 < i - j ∧ 0 < j ∧ i - j ≤ mm ∧ mm + (j) ≤ d.size from by omega), by (try dsimp only); rw [swpR_size]; exact hes, fun d' h => hrot d' (rot_more (by omega) (by omega) (by omega) (by omega) (by rw [show mm - i + j = mm - (i - j) by omega]; exact h))⟩ (fun w hw => hw)
    ·
      refine Wc.seq ?_
      refine Wc.region ?_
      refine Wl.move rfl rfl ?_
      refine Wl.move rfl rfl ?_
      refine Wl.move rfl rfl ?_
      refine Wl.sub rfl rfl rfl (by omega) ?_
      refine Wl.move rfl rfl ?_
      refine Wl.move rfl rfl ?_
      refine Wl.add rfl rfl rfl (by omega) ?_
      refine Wl.move rfl rfl ?_
      refine Wl.sub rfl rfl rfl (by omega) ?_
      refine Wl.move rfl rfl ?_
      refine Wl.move rfl rfl ?_
      refine Wl.callW 0 [_, _, _, _, .func (.func 196) #[] #[]] Tryz.func240 rfl rfl rfl rfl rfl (fun w hw => swaprange_at _ w _ (e) (hw.get (i := 0) rfl) (fun k hk => .inr ⟨_, List.mem_of_getElem? (i := 0) rfl, hk⟩) (by omega) (mm - i) (mm + j - i) (i) _ _ _ (by omega) (by omega) (by omega) (by omega) (by omega)) (fun ys46 hys46 => ?_)
      obtain rfl := hys46
      refine Wl.nil ?_
      refine Wx.then_n ?_
      refine Wc.region ?_
      refine Wl.move rfl rfl ?_
      refine Wl.move rfl rfl ?_
      refine Wl.sub rfl rfl rfl (by omega) ?_
      refine Wl.assign rfl rfl ?_
      refine Wl.nil ?_
      refine Wx.block_n ?_
      exact Wx.againS ⟨i, j - i, swpR e (mm - i) (mm + j - i) i⟩ (by (try dsimp only); omega) ⟨rfl, rfl, rfl, rfl, rfl, rfl, congrArg (fun z => some (Value.int .i64 z)) (show (j : Int) - i = ((j - i : Nat) : Int) by omega), trivial⟩ ⟨(show 0 < i ∧ 0 < j - i ∧ i ≤ mm ∧ mm + (j - i) ≤ d.size from by omega), by (try dsimp only); rw [swpR_size]; exact hes, fun d' h => hrot d' (rot_less (by omega) (by omega) (by omega) (by omega) (by rw [show mm + j - i = mm + (j - i) by omega]; (try rw [show mm + j - i = mm + (j - i) by omega] at h); exact h))⟩ (fun w hw => hw)
  ·
    obtain rfl : i = j := by omega
    refine Wc.exit ?_
    refine Wx.then_e ?_
    refine Wx.then_e ?_
    refine Wx.block_e ?_
    refine Wx.then_n ?_
    refine Wc.region ?_
    refine Wl.move rfl rfl ?_
    refine Wl.move rfl rfl ?_
    refine Wl.move rfl rfl ?_
    refine Wl.sub rfl rfl rfl (by omega) ?_
    refine Wl.move rfl rfl ?_
    refine Wl.move rfl rfl ?_
    refine Wl.move rfl rfl ?_
    refine Wl.callW 0 [_, _, _, _, .func (.func 196) #[] #[]] Tryz.func240 rfl rfl rfl rfl rfl (fun w hw => swaprange_at _ w _ (e) (hw.get (i := 0) rfl) (fun k hk => .inr ⟨_, List.mem_of_getElem? (i := 0) rfl, hk⟩) (by omega) (mm - i) (mm) (i) _ _ _ (by omega) (by omega) (by omega) (by omega) (by omega)) (fun ys57 hys57 => ?_)
    obtain rfl := hys57
    refine Wl.nil ?_
    exact Wx.retW (.inr rfl) rfl (by simpa using hrot _ (rot_same (by omega) (by omega) (by omega))) (fun w hw => hw)

theorem insort_calls (m : Nat → Prop) (w : World) (v : Value) (d : Array Pane) (hx : (rowOf ePane v 166 4 d.toList).holds w) (hm : ∀ k, v.ownBlock = some k → m k) (hsz : d.size ≤ 4398046511104) (a b : Nat) (h1 : a ≤ b) (h2 : b ≤ d.size) :
    Calls Tryz.prog 237 #[v, .int .i64 a, .int .i64 b, .func (.func 196) #[] #[]] w (PostW m w ePane v 166 4 (fun ys => PermIn a b d ys.toArray ∧ SortedIn lessP a b ys.toArray)) := by
  refine calls_of_Wc (args := [v, .int .i64 a, .int .i64 b, .func (.func 196) #[] #[]]) 53 Tryz.func237 rfl rfl (by simp) ?_
  refine Wc.startW hx (Ro.const trivial : Ro m w (fun _ => True)) hm ?_
  refine Wc.form 0 rfl (fun A cp e hcp hA => ?_)
  subst e
  rw [Array.length_toList] at hcp hA
  rw [Array.length_toList]
  refine Wc.seq ?_
  refine Wc.region ?_
  refine Wl.move rfl rfl ?_
  refine Wl.add rfl rfl rfl (by omega) ?_
  refine Wl.assign rfl rfl ?_
  refine Wl.nil ?_
  refine Wx.then_n ?_
  refine Wc.block ?_
  refine Wc.loopS (G := Nat × Array Pane) (fun g => match g with | ⟨i, e⟩ => [(0, .slice A d.size cp), (1, .int .i64 a), (2, .int .i64 b), (3, .func (.func 196) #[] #[]), (8, .int .i64 i)]) (fun g => match g with | ⟨i, e⟩ => a + 1 ≤ i ∧ (i ≤ b ∨ i = a + 1) ∧ PermIn a b d e ∧ SortedIn lessP a i e) (fun g => match g with | ⟨i, e⟩ => [rowOf ePane (.slice A d.size cp) 166 4 (e).toList]) (fun g => match g with | ⟨i, e⟩ => fun _ => True) (fun g => match g with | ⟨i, e⟩ => b + 1 - i) ⟨a + 1, d⟩ ⟨rfl, rfl, rfl, rfl, rfl, trivial⟩ ⟨Nat.le_refl _, .inr rfl, permIn_refl _ _ _, fun p q _ _ _ => by omega⟩ (fun w hw => hw) ?_
  rintro ⟨i, e⟩ ⟨hi1, hi2, hpe, hse⟩
  dsimp only
  refine Wc.seq ?_
  refine Wc.seq ?_
  refine Wc.region ?_
  refine Wl.move rfl rfl ?_
  refine Wl.move rfl rfl ?_
  refine Wl.lss rfl rfl rfl ?_
  refine Wl.nil ?_
  refine Wx.then_n ?_
  refine Wc.condp rfl (fun h14 => ?_) (fun h14 => ?_)
  ·
    refine Wc.skip ?_
    refine Wx.then_n ?_
    refine Wc.seq ?_
    refine Wc.block ?_
    refine Wc.seq ?_
    refine Wc.region ?_
    refine Wl.move rfl rfl ?_
    refine Wl.assign rfl rfl ?_
    refine Wl.nil ?_
    refine Wx.then_n ?_
    refine Wc.block ?_
    refine Wc.loopS (G := Nat × Array Pane) (fun g => match g with | ⟨j, e⟩ => [(0, .slice A d.size cp), (1, .int .i64 a), (2, .int .i64 b), (3, .func (.func 196) #[] #[]), (8, .int .i64 i), (9, .int .i64 j)]) (fun g => match g with | ⟨j, e⟩ => a ≤ j ∧ j ≤ i ∧ PermIn a b d e ∧ Ins lessP a j i e) (fun g => match g with | ⟨j, e⟩ => [rowOf ePane (.slice A d.size cp) 166 4 (e).toList]) (fun g => match g with | ⟨j, e⟩ => fun _ => True) (fun g => match g with | ⟨j, e⟩ => j) ⟨i, e⟩ ⟨rfl, rfl, rfl, rfl, rfl, rfl, trivial⟩ ⟨by (try dsimp only); omega, Nat.le_refl _, hpe, ⟨fun p q h1 h2 h3 h4 h5 => hse p q h1 h2 (by (try dsimp only at *); omega), fun q h1 h2 => by (try dsimp only at *); omega⟩⟩ (fun w hw => hw) ?_
    rintro ⟨j, e⟩ ⟨hj1, hj2, hpe, hie⟩
    dsimp only
    have hd1 : e.size = d.size := hpe.1
    refine Wc.seq ?_
    refine Wc.seq ?_
    refine Wc.draw mixed (by kernel_rfl) (fun w hw => hw.drew) ?_
    refine Wl.move rfl rfl ?_
    refine Wl.move rfl rfl ?_
    refine Wl.gtr rfl rfl rfl ?_
    refine Wl.move rfl rfl ?_
    refine Wl.splitp 21 rfl (fun h21 => ?_) (fun h21 => ?_)
    ·
      obtain ⟨q, rfl⟩ : ∃ q, j = q + 1 := ⟨j - 1, by omega⟩
      obtain ⟨g, rfl⟩ := hA (by omega)
      refine Wl.move rfl rfl ?_
      refine Wl.move rfl rfl ?_
      refine Wl.move rfl rfl ?_
      refine Wl.idx (j := (q + 1)) Tryz.underlying53 t166 rfl rfl rfl (by omega) ?_
      refine Wl.loads_at (cs := (ePane ((e).toList[q + 1]'(by simp [hd1]; omega)))) t166 rfl rfl rfl (fun w hw => St.own_cells2 (enc := ePane) (sz := 4) hw 0 rfl (fun _ => rfl) (fun _ => rfl) (by decide) (q + 1) (by simp [hd1]; omega)) ?_
      refine Wl.move rfl rfl ?_
      refine Wl.move rfl rfl ?_
      refine Wl.sub rfl rfl rfl (by omega) ?_
      refine Wl.idx (j := (q)) Tryz.underlying53 t166 rfl (congrArg (fun z => some (Value.int .i64 z)) (by omega)) rfl (by omega) ?_
      refine Wl.loads_at (cs := (ePane ((e).toList[q]'(by simp [hd1]; omega)))) t166 rfl rfl rfl (fun w hw => St.own_cells2 (enc := ePane) (sz := 4) hw 0 rfl (fun _ => rfl) (fun _ => rfl) (by decide) (q) (by simp [hd1]; omega)) ?_
      refine Wl.callF [_, _] (cap := []) Tryz.func196 rfl rfl rfl rfl rfl (fun w hw => order_callsV _ _ _ w) ?_
      refine Wl.lss rfl rfl rfl ?_
      refine Wl.pick_t rfl rfl rfl ?_
      refine Wl.nilq ?_
      refine Wx.then_n ?_
      refine Wc.condp rfl (fun h34 => ?_) (fun h34 => ?_)
      ·
        have hlt : lessP e[q + 1]! e[q]! = true := by rw [← at_list e (q + 1) (by simp [hd1]; omega), ← at_list e q (by simp [hd1]; omega)]; exact cmpP_neg.1 h34
        refine Wc.skip ?_
        refine Wx.then_n ?_
        refine Wc.seq ?_
        refine Wc.block ?_
        refine Wc.drawp [2, 3, 4] [0, 1, 5, 6, 7, 8, 9, 10, 11, 12, 13, 14] 15 mixed (by kernel_rfl) (fun w hw => hw.drew) ?_
        refine Wl.move rfl rfl ?_
        refine Wl.move rfl rfl ?_
        refine Wl.sub rfl rfl rfl (by omega) ?_
        refine Wl.nilp ?_
        refine Wl.move rfl rfl ?_
        refine Wl.move rfl rfl ?_
        refine Wl.move rfl rfl ?_
        refine Wl.move rfl rfl ?_
        refine Wl.sub rfl rfl rfl (by omega) ?_
        refine Wl.idx (j := (q)) Tryz.underlying53 t166 rfl (congrArg (fun z => some (Value.int .i64 z)) (by omega)) rfl (by omega) ?_
        refine Wl.loads_at (cs := (ePane ((e).toList[q]'(by simp [hd1]; omega)))) t166 rfl rfl rfl (fun w hw => St.own_cells2 (enc := ePane) (sz := 4) hw 0 rfl (fun _ => rfl) (fun _ => rfl) (by decide) (q) (by simp [hd1]; omega)) ?_
        refine Wl.move rfl rfl ?_
        refine Wl.move rfl rfl ?_
        refine Wl.idx (j := (q + 1)) Tryz.underlying53 t166 rfl rfl rfl (by omega) ?_
        refine Wl.loads_at (cs := (ePane ((e).toList[q + 1]'(by simp [hd1]; omega)))) t166 rfl rfl rfl (fun w hw => St.own_cells2 (enc := ePane) (sz := 4) hw 0 rfl (fun _ => rfl) (fun _ => rfl) (by decide) (q + 1) (by simp [hd1]; omega)) ?_
        refine Wl.idx (j := (q + 1)) Tryz.underlying53 t166 rfl rfl rfl (by omega) ?_
        refine Wl.nilt ?_
        refine Wl.storee 0 (q + 1) 0 ((e.toList[q]'(by simp [hd1]; omega))) t166 rfl rfl rfl (by simp [hd1]) (fun _ => rfl) rfl rfl rfl (by simp [hd1]; omega) (addr_at _ _) (Nat.le_of_ble_eq_true rfl) rfl ?_
        refine Wl.idx (j := q) Tryz.underlying53 t166 rfl (congrArg (fun z => some (Value.int .i64 z)) (by omega)) rfl (by omega) ?_
        refine Wl.storee 0 (q) 0 ((e.toList[q + 1]'(by simp [hd1]; omega))) t166 rfl rfl rfl (by simp [hd1]) (fun _ => rfl) rfl rfl rfl (by simp [hd1]; omega) (addr_at _ _) (Nat.le_of_ble_eq_true rfl) rfl ?_
        refine Wl.nil ?_
        refine Wx.nopanic ?_
        refine Wx.block_n ?_
        refine Wx.then_n ?_
        refine Wc.region ?_
        refine Wl.move rfl rfl ?_
        refine Wl.sub rfl rfl rfl (by omega) ?_
        refine Wl.assign rfl rfl ?_
        refine Wl.nil ?_
        exact Wx.againS ⟨q, swp e (q + 1) q⟩ (by (try dsimp only); omega) ⟨rfl, rfl, rfl, rfl, rfl, congrArg (fun z => some (Value.int .i64 z)) (by omega), trivial⟩ ⟨by (try dsimp only); omega, by (try dsimp only); omega, permIn_trans _ _ _ _ _ hpe (swp_permIn _ _ _ _ _ (by omega) (by omega) (by omega) (by omega) (by omega)), hie.step hlt (by omega) (by omega)⟩ (fun w hw => by have := swp_list e (q + 1) q (by simp [hd1]; omega) (by simp [hd1]; omega); simp only [List.set] at hw; rw [this] at hw; exact hw)
      ·
        have hlt : lessP e[q + 1]! e[q]! = false := by rw [← at_list e (q + 1) (by simp [hd1]; omega), ← at_list e q (by simp [hd1]; omega)]; exact cmpP_nneg h34
        refine Wc.exit ?_
        refine Wx.then_e ?_
        refine Wx.then_e ?_
        refine Wx.block_e ?_
        refine Wx.block_n ?_
        refine Wx.then_n ?_
        refine Wc.region ?_
        refine Wl.move rfl rfl ?_
        refine Wl.add rfl rfl rfl (by omega) ?_
        refine Wl.assign rfl rfl ?_
        refine Wl.nil ?_
        exact Wx.againS ⟨i + 1, e⟩ (by (try dsimp only); omega) ⟨rfl, rfl, rfl, rfl, rfl, trivial⟩ ⟨by (try dsimp only); omega, by (try dsimp only); omega, hpe, hie.stop lessP_to.swo (.inr hlt)⟩ (fun w hw => hw)
    ·
      refine Wl.skip rfl rfl ?_
      refine Wl.skip rfl rfl ?_
      refine Wl.skip rfl rfl ?_
      refine Wl.skip rfl rfl ?_
      refine Wl.skip rfl rfl ?_
      refine Wl.skip rfl rfl ?_
      refine Wl.skip rfl rfl ?_
      refine Wl.skip rfl rfl ?_
      refine Wl.skip rfl rfl ?_
      refine Wl.skip rfl rfl ?_
      refine Wl.skip rfl rfl ?_
      refine Wl.skip rfl rfl ?_
      refine Wl.pick_f rfl rfl rfl ?_
      refine Wl.nilq ?_
      refine Wx.then_n ?_
      refine Wc.cond_f rfl ?_
      refine Wc.exit ?_
      refine Wx.then_e ?_
      refine Wx.then_e ?_
      refine Wx.block_e ?_
      refine Wx.block_n ?_
      refine Wx.then_n ?_
      refine Wc.region ?_
      refine Wl.move rfl rfl ?_
      refine Wl.add rfl rfl rfl (by omega) ?_
      refine Wl.assign rfl rfl ?_
      refine Wl.nil ?_
      exact Wx.againS ⟨i + 1, e⟩ (by (try dsimp only); omega) ⟨rfl, rfl, rfl, rfl, rfl, trivial⟩ ⟨by (try dsimp only); omega, by (try dsimp only); omega, hpe, hie.stop lessP_to.swo (.inl (by omega))⟩ (fun w hw => hw)
  ·
    refine Wc.exit ?_
    refine Wx.then_e ?_
    refine Wx.then_e ?_
    refine Wx.block_e ?_
    exact Wx.retW (.inr rfl) rfl (by simp only [Array.toArray_toList]; exact ⟨hpe, fun p q h1 h2 h3 => hse p q h1 h2 (by omega)⟩) (fun w hw => hw)

theorem TO.lt_le {α : Type} {lt : α → α → Bool} (h : TO lt) {x y z : α} (h1 : lt y x = false) (h2 : lt y z = true) : lt x z = true := by
  cases h3 : lt x z with
  | true => rfl
  | false => rw [h.leT h3 h1 |> fun h4 => h4] at h2; cases h2
theorem TO.le_lt {α : Type} {lt : α → α → Bool} (h : TO lt) {x y z : α} (h1 : lt x y = true) (h2 : lt z y = false) : lt x z = true := by
  cases h3 : lt x z with
  | true => rfl
  | false => rw [h.leT h2 h3 |> fun h4 => h4] at h1; cases h1
/-- What a merge's search says. -/
def Cut (d : Array Pane) (n st s r' r : Nat) : Prop := st ≤ s ∧ s ≤ r' ∧ r' ≤ r ∧ (∀ c, st ≤ c → c < s → lessP d[n - 1 - c]! d[c]! = false) ∧ (∀ c, r' ≤ c → c < r → lessP d[n - 1 - c]! d[c]! = true)
def Wide (a mm b mid st r : Nat) : Prop := (mid < mm ∧ st + b = mid + mm ∧ r = mid) ∨ (mm ≤ mid ∧ st = a ∧ r = mm)
theorem cut_up {a mm b mid st r s r' c : Nat} {d : Array Pane} (hmid : mid = (a + b) / 2) (h1 : a < mm) (h2 : mm < b) (s1 : SortedIn lessP a mm d) (s2 : SortedIn lessP mm b d) (hw : Wide a mm b mid st r) (hc : Cut d (mid + mm) st s r' r) (hsc : s ≤ c) (hcr : c < r') (hl : lessP d[mid + mm - 1 - c]! d[c]! = false) : Cut d (mid + mm) st (c + 1) r' r := by
  obtain ⟨c1, c2, c3, c4, c5⟩ := hc
  unfold Wide at hw
  refine ⟨by omega, by omega, c3, fun k hk1 hk2 => ?_, c5⟩
  exact lessP_to.leT (lessP_to.leT (le_refl' lessP_to s1 k c (by omega) (by omega) (by omega)) hl) (le_refl' lessP_to s2 (mid + mm - 1 - c) (mid + mm - 1 - k) (by omega) (by omega) (by omega))
theorem cut_dn {a mm b mid st r s r' c : Nat} {d : Array Pane} (hmid : mid = (a + b) / 2) (h1 : a < mm) (h2 : mm < b) (s1 : SortedIn lessP a mm d) (s2 : SortedIn lessP mm b d) (hw : Wide a mm b mid st r) (hc : Cut d (mid + mm) st s r' r) (hsc : s ≤ c) (hcr : c < r') (hl : lessP d[mid + mm - 1 - c]! d[c]! = true) : Cut d (mid + mm) st s c r := by
  obtain ⟨c1, c2, c3, c4, c5⟩ := hc
  unfold Wide at hw
  refine ⟨c1, hsc, by omega, c4, fun k hk1 hk2 => ?_⟩
  exact lessP_to.le_lt (lessP_to.lt_le (le_refl' lessP_to s2 (mid + mm - 1 - k) (mid + mm - 1 - c) (by omega) (by omega) (by omega)) hl) (le_refl' lessP_to s1 c k (by omega) (by omega) (by omega))
theorem cut_end {a mm b mid st r s en : Nat} {d : Array Pane} (hmid : mid = (a + b) / 2) (h1 : a < mm) (h2 : mm < b) (h3 : b ≤ d.size) (hw : Wide a mm b mid st r) (hc : Cut d (mid + mm) st s s r) (hen : s + en = mid + mm) :
    (a ≤ s ∧ s ≤ mm ∧ s ≤ mid ∧ mid ≤ en ∧ mm ≤ en ∧ en ≤ b ∧ s + en = mid + mm ∧ b ≤ d.size) ∧ (a < s → en < b → lessP d[en]! d[s - 1]! = false) ∧ (s < mm → mm < en → lessP d[s]! d[en - 1]! = false) := by
  obtain ⟨c1, c2, c3, c4, c5⟩ := hc
  unfold Wide at hw
  refine ⟨by omega, fun k1 k2 => ?_, fun k1 k2 => ?_⟩
  · have := c4 (s - 1) (by omega) (by omega)
    rwa [show mid + mm - 1 - (s - 1) = en by omega] at this
  · have := c5 s (Nat.le_refl _) (by omega)
    rw [show mid + mm - 1 - s = en - 1 by omega] at this
    exact lessP_to.asym this

set_option maxHeartbeats 2000000 in
theorem symmerge_calls : ∀ (N : Nat) (m : Nat → Prop) (w : World) (v : Value) (d : Array Pane) (hx : (rowOf ePane v 166 4 d.toList).holds w) (hm : ∀ k, v.ownBlock = some k → m k) (hsz : d.size ≤ 4398046511104) (a mm b : Nat) (h1 : a < mm) (h2 : mm < b) (h3 : b ≤ d.size) (s1 : SortedIn lessP a mm d) (s2 : SortedIn lessP mm b d) (hN : b - a ≤ N),
    Calls Tryz.prog 238 #[v, .int .i64 a, .int .i64 mm, .int .i64 b, .func (.func 196) #[] #[]] w (PostW m w ePane v 166 4 (fun ys => PermIn a b d ys.toArray ∧ SortedIn lessP a b ys.toArray)) := by
  intro N
  induction N with
  | zero => intro m w v d hx hm hsz a mm b h1 h2 h3 s1 s2 hN; exact absurd hN (by omega)
  | succ N ih =>
    intro m w v d hx hm hsz a mm b h1 h2 h3 s1 s2 hN
    refine calls_of_Wc (args := [v, .int .i64 a, .int .i64 mm, .int .i64 b, .func (.func 196) #[] #[]]) 220 Tryz.func238 rfl rfl (by simp) ?_
    refine Wc.startW hx (Ro.const trivial : Ro m w (fun _ => True)) hm ?_
    refine Wc.form 0 rfl (fun A cp e hcp hA => ?_)
    subst e
    rw [Array.length_toList] at hcp hA
    rw [Array.length_toList]
    refine Wc.seq ?_
    refine Wc.seq ?_
    refine Wc.region ?_
    refine Wl.move rfl rfl ?_
    refine Wl.move rfl rfl ?_
    refine Wl.sub rfl rfl rfl (by omega) ?_
    refine Wl.eql rfl rfl rfl ?_
    refine Wl.nil ?_
    refine Wx.then_n ?_
    refine Wc.condp rfl (fun h28 => ?_) (fun h28 => ?_)
    ·
      obtain rfl : mm = a + 1 := by omega
      refine Wc.seq ?_
      refine Wc.region ?_
      refine Wl.move rfl rfl ?_
      refine Wl.assign rfl rfl ?_
      refine Wl.nil ?_
      refine Wx.then_n ?_
      refine Wc.seq ?_
      refine Wc.region ?_
      refine Wl.move rfl rfl ?_
      refine Wl.assign rfl rfl ?_
      refine Wl.nil ?_
      refine Wx.then_n ?_
      refine Wc.seq ?_
      refine Wc.block ?_
      refine Wc.loopS (G := Nat × Nat) (fun g => match g with | ⟨i, j⟩ => [(0, .slice A d.size cp), (1, .int .i64 a), (2, .int .i64 (a + 1 : Nat)), (3, .int .i64 b), (4, .func (.func 196) #[] #[]), (10, .int .i64 i), (11, .int .i64 j)]) (fun g => match g with | ⟨i, j⟩ => a + 1 ≤ i ∧ i ≤ j ∧ j ≤ b ∧ (∀ k, a + 1 ≤ k → k < i → lessP d[k]! d[a]! = true) ∧ (∀ k, j ≤ k → k < b → lessP d[k]! d[a]! = false)) (fun g => match g with | ⟨i, j⟩ => [rowOf ePane (.slice A d.size cp) 166 4 (d).toList]) (fun g => match g with | ⟨i, j⟩ => fun _ => True) (fun g => match g with | ⟨i, j⟩ => j - i) ⟨a + 1, b⟩ ⟨rfl, rfl, rfl, rfl, rfl, rfl, rfl, trivial⟩ ⟨Nat.le_refl _, by (try dsimp only); omega, Nat.le_refl _, fun k _ _ => by (try dsimp only at *); omega, fun k _ _ => by (try dsimp only at *); omega⟩ (fun w hw => hw) ?_
      rintro ⟨i, j⟩ ⟨q1, q2, q3, q4, q5⟩
      dsimp only
      refine Wc.seq ?_
      refine Wc.seq ?_
      refine Wc.region ?_
      refine Wl.move rfl rfl ?_
      refine Wl.move rfl rfl ?_
      refine Wl.lss rfl rfl rfl ?_
      refine Wl.nil ?_
      refine Wx.then_n ?_
      refine Wc.condp rfl (fun h33 => ?_) (fun h33 => ?_)
      ·
        refine Wc.skip ?_
        refine Wx.then_n ?_
        refine Wc.block ?_
        refine Wc.seq ?_
        refine Wc.region ?_
        refine Wl.move rfl rfl ?_
        refine Wl.move rfl rfl ?_
        refine Wl.add rfl rfl rfl (by omega) ?_
        refine Wl.conv Tryz.underlying3 Tryz.underlying221 rfl (IntWalk.u64_in _ (by omega)) rfl ?_
        refine Wl.shr1 rfl rfl (by decide) rfl ?_
        refine Wl.conv Tryz.underlying221 Tryz.underlying3 rfl (IntWalk.i64_in _ (by omega)) rfl ?_
        refine Wl.assign rfl rfl ?_
        refine Wl.nil ?_
        refine Wx.then_n ?_
        refine Wc.seq ?_
        obtain ⟨hh, hhe⟩ : ∃ hh : Nat, ((i : Int) + j) / 2 = hh := ⟨(i + j) / 2, by omega⟩
        rw [hhe]
        obtain ⟨g, rfl⟩ := hA (by omega)
        refine Wc.draw mixed (by kernel_rfl) (fun w hw => hw.drew) ?_
        refine Wl.move rfl rfl ?_
        refine Wl.move rfl rfl ?_
        refine Wl.move rfl rfl ?_
        refine Wl.idx (j := (hh)) Tryz.underlying53 t166 rfl rfl rfl (by omega) ?_
        refine Wl.loads_at (cs := (ePane ((d).toList[hh]'(by simp [Array.length_toList]; omega)))) t166 rfl rfl rfl (fun w hw => St.own_cells2 (enc := ePane) (sz := 4) hw 0 rfl (fun _ => rfl) (fun _ => rfl) (by decide) (hh) (by simp [Array.length_toList]; omega)) ?_
        refine Wl.move rfl rfl ?_
        refine Wl.move rfl rfl ?_
        refine Wl.idx (j := (a)) Tryz.underlying53 t166 rfl rfl rfl (by omega) ?_
        refine Wl.loads_at (cs := (ePane ((d).toList[a]'(by simp [Array.length_toList]; omega)))) t166 rfl rfl rfl (fun w hw => St.own_cells2 (enc := ePane) (sz := 4) hw 0 rfl (fun _ => rfl) (fun _ => rfl) (by decide) (a) (by simp [Array.length_toList]; omega)) ?_
        refine Wl.callF [_, _] (cap := []) Tryz.func196 rfl rfl rfl rfl rfl (fun w hw => order_callsV _ _ _ w) ?_
        refine Wl.lss rfl rfl rfl ?_
        refine Wl.nilq ?_
        refine Wx.then_n ?_
        refine Wc.condp rfl (fun h50 => ?_) (fun h50 => ?_)
        ·
          have hlt : lessP d[hh]! d[a]! = true := by rw [← at_list d (hh) (by simp; omega), ← at_list d (a) (by simp; omega)]; exact cmpP_neg.1 (h50)
          refine Wc.region ?_
          refine Wl.move rfl rfl ?_
          refine Wl.add rfl rfl rfl (by omega) ?_
          refine Wl.assign rfl rfl ?_
          refine Wl.nil ?_
          refine Wx.block_n ?_
          exact Wx.againS ⟨hh + 1, j⟩ (by (try dsimp only); omega) ⟨rfl, rfl, rfl, rfl, rfl, rfl, rfl, trivial⟩ ⟨by (try dsimp only); omega, by (try dsimp only); omega, q3, fun k k1 k2 => lessP_to.lt_le (le_refl' lessP_to s2 k hh k1 (by (try dsimp only at *); omega) (by omega)) hlt, q5⟩ (fun w hw => hw)
        ·
          have hlt : lessP d[hh]! d[a]! = false := by rw [← at_list d (hh) (by simp; omega), ← at_list d (a) (by simp; omega)]; exact cmpP_nneg (h50)
          refine Wc.region ?_
          refine Wl.move rfl rfl ?_
          refine Wl.assign rfl rfl ?_
          refine Wl.nil ?_
          refine Wx.block_n ?_
          exact Wx.againS ⟨i, hh⟩ (by (try dsimp only); omega) ⟨rfl, rfl, rfl, rfl, rfl, rfl, rfl, trivial⟩ ⟨q1, by (try dsimp only); omega, by (try dsimp only); omega, q4, fun k k1 k2 => lessP_to.leT hlt (le_refl' lessP_to s2 hh k (by (try dsimp only at *); omega) (by (try dsimp only at *); omega) k2)⟩ (fun w hw => hw)
      ·
        obtain rfl : i = j := by omega
        refine Wc.exit ?_
        refine Wx.then_e ?_
        refine Wx.then_e ?_
        refine Wx.block_e ?_
        refine Wx.then_n ?_
        refine Wc.seq ?_
        refine Wc.seq ?_
        refine Wc.region ?_
        refine Wl.move rfl rfl ?_
        refine Wl.assign rfl rfl ?_
        refine Wl.nil ?_
        refine Wx.then_n ?_
        refine Wc.block ?_
        refine Wc.loopS (G := Nat) (fun g => match g with | k => [(0, .slice A d.size cp), (1, .int .i64 a), (2, .int .i64 (a + 1 : Nat)), (3, .int .i64 b), (4, .func (.func 196) #[] #[]), (10, .int .i64 i), (13, .int .i64 (a + k : Nat))]) (fun g => match g with | k => a + k + 1 ≤ i) (fun g => match g with | k => [rowOf ePane (.slice A d.size cp) 166 4 (shiftUp d a k).toList]) (fun g => match g with | k => fun _ => True) (fun g => match g with | k => i - k) 0 ⟨rfl, rfl, rfl, rfl, rfl, rfl, rfl, trivial⟩ (by (try dsimp only); omega) (fun w hw => hw) ?_
        rintro k hk0
        dsimp only
        have hd1 : (shiftUp d a k).size = d.size := shiftUp_size d a k
        refine Wc.seq ?_
        refine Wc.seq ?_
        refine Wc.region ?_
        refine Wl.move rfl rfl ?_
        refine Wl.move rfl rfl ?_
        refine Wl.sub rfl rfl rfl (by omega) ?_
        refine Wl.lss rfl rfl rfl ?_
        refine Wl.nil ?_
        refine Wx.then_n ?_
        refine Wc.condp rfl (fun h58 => ?_) (fun h58 => ?_)
        ·
          have hki : a + k + 1 < i := by omega
          obtain ⟨g, rfl⟩ := hA (by omega)
          refine Wc.skip ?_
          refine Wx.then_n ?_
          refine Wc.seq ?_
          refine Wc.block ?_
          refine Wc.drawp [2, 3, 4] [0, 1, 5, 6, 7, 8, 9, 10, 11, 12, 13, 14] 15 mixed (by kernel_rfl) (fun w hw => hw.drew) ?_
          refine Wl.move rfl rfl ?_
          refine Wl.move rfl rfl ?_
          refine Wl.add rfl rfl rfl (by omega) ?_
          refine Wl.nilp ?_
          refine Wl.move rfl rfl ?_
          refine Wl.move rfl rfl ?_
          refine Wl.move rfl rfl ?_
          refine Wl.move rfl rfl ?_
          refine Wl.add rfl rfl rfl (by omega) ?_
          refine Wl.idx (j := (a + k + 1)) Tryz.underlying53 t166 rfl (congrArg (fun z => some (Value.int .i64 z)) (by omega)) rfl (by omega) ?_
          refine Wl.loads_at (cs := (ePane ((shiftUp d a k).toList[a + k + 1]'(by simp [hd1]; omega)))) t166 rfl rfl rfl (fun w hw => St.own_cells2 (enc := ePane) (sz := 4) hw 0 rfl (fun _ => rfl) (fun _ => rfl) (by decide) (a + k + 1) (by simp [hd1]; omega)) ?_
          refine Wl.move rfl rfl ?_
          refine Wl.move rfl rfl ?_
          refine Wl.idx (j := (a + k)) Tryz.underlying53 t166 rfl rfl rfl (by omega) ?_
          refine Wl.loads_at (cs := (ePane ((shiftUp d a k).toList[a + k]'(by simp [hd1]; omega)))) t166 rfl rfl rfl (fun w hw => St.own_cells2 (enc := ePane) (sz := 4) hw 0 rfl (fun _ => rfl) (fun _ => rfl) (by decide) (a + k) (by simp [hd1]; omega)) ?_
          refine Wl.idx (j := (a + k)) Tryz.underlying53 t166 rfl rfl rfl (by omega) ?_
          refine Wl.nilt ?_
          refine Wl.storee 0 (a + k) 0 (((shiftUp d a k).toList[a + k + 1]'(by simp [hd1]; omega))) t166 rfl rfl rfl (by simp [hd1]) (fun _ => rfl) rfl rfl rfl (by simp [hd1]; omega) (addr_at _ _) (Nat.le_of_ble_eq_true rfl) rfl ?_
          refine Wl.idx (j := (a + k + 1)) Tryz.underlying53 t166 rfl (congrArg (fun z => some (Value.int .i64 z)) (by omega)) rfl (by omega) ?_
          refine Wl.storee 0 (a + k + 1) 0 (((shiftUp d a k).toList[a + k]'(by simp [hd1]; omega))) t166 rfl rfl rfl (by simp [hd1]) (fun _ => rfl) rfl rfl rfl (by simp [hd1]; omega) (addr_at _ _) (Nat.le_of_ble_eq_true rfl) rfl ?_
          refine Wl.nil ?_
          refine Wx.nopanic ?_
          refine Wx.block_n ?_
          refine Wx.then_n ?_
          refine Wc.region ?_
          refine Wl.move rfl rfl ?_
          refine Wl.add rfl rfl rfl (by omega) ?_
          refine Wl.assign rfl rfl ?_
          refine Wl.nil ?_
          exact Wx.againS (k + 1) (by (try dsimp only); omega) ⟨rfl, rfl, rfl, rfl, rfl, rfl, rfl, trivial⟩ (by (try dsimp only); omega) (fun w hw => by have := swp_list (shiftUp d a k) (a + k) (a + k + 1) (by simp [hd1]; omega) (by simp [hd1]; omega); simp only [List.set] at hw; rw [this] at hw; exact hw)
        ·
          refine Wc.exit ?_
          refine Wx.then_e ?_
          refine Wx.then_e ?_
          refine Wx.block_e ?_
          refine Wx.then_n ?_
          refine Wc.ret ?_
          refine Wx.then_r ?_
          obtain rfl : k = i - 1 - a := by omega
          exact Wx.retW (.inl rfl) rfl (by simp only [Array.toArray_toList]; exact sym_one lessP_to h3 q1 q3 s2 q4 q5) (fun w hw => hw)
    ·
      refine Wc.skip ?_
      refine Wx.then_n ?_
      refine Wc.seq ?_
      refine Wc.seq ?_
      refine Wc.region ?_
      refine Wl.move rfl rfl ?_
      refine Wl.move rfl rfl ?_
      refine Wl.sub rfl rfl rfl (by omega) ?_
      refine Wl.eql rfl rfl rfl ?_
      refine Wl.nil ?_
      refine Wx.then_n ?_
      refine Wc.condp rfl (fun h80 => ?_) (fun h80 => ?_)
      ·
        obtain rfl : b = mm + 1 := by omega
        refine Wc.seq ?_
        refine Wc.region ?_
        refine Wl.move rfl rfl ?_
        refine Wl.assign rfl rfl ?_
        refine Wl.nil ?_
        refine Wx.then_n ?_
        refine Wc.seq ?_
        refine Wc.region ?_
        refine Wl.move rfl rfl ?_
        refine Wl.assign rfl rfl ?_
        refine Wl.nil ?_
        refine Wx.then_n ?_
        refine Wc.seq ?_
        refine Wc.block ?_
        refine Wc.loopS (G := Nat × Nat) (fun g => match g with | ⟨i, j⟩ => [(0, .slice A d.size cp), (1, .int .i64 a), (2, .int .i64 mm), (3, .int .i64 (mm + 1 : Nat)), (4, .func (.func 196) #[] #[]), (14, .int .i64 i), (15, .int .i64 j)]) (fun g => match g with | ⟨i, j⟩ => a ≤ i ∧ i ≤ j ∧ j ≤ mm ∧ (∀ k, a ≤ k → k < i → lessP d[mm]! d[k]! = false) ∧ (∀ k, j ≤ k → k < mm → lessP d[mm]! d[k]! = true)) (fun g => match g with | ⟨i, j⟩ => [rowOf ePane (.slice A d.size cp) 166 4 (d).toList]) (fun g => match g with | ⟨i, j⟩ => fun _ => True) (fun g => match g with | ⟨i, j⟩ => j - i) ⟨a, mm⟩ ⟨rfl, rfl, rfl, rfl, rfl, rfl, rfl, trivial⟩ ⟨Nat.le_refl _, by (try dsimp only); omega, Nat.le_refl _, fun k _ _ => by (try dsimp only at *); omega, fun k _ _ => by (try dsimp only at *); omega⟩ (fun w hw => hw) ?_
        rintro ⟨i, j⟩ ⟨q1, q2, q3, q4, q5⟩
        dsimp only
        refine Wc.seq ?_
        refine Wc.seq ?_
        refine Wc.region ?_
        refine Wl.move rfl rfl ?_
        refine Wl.move rfl rfl ?_
        refine Wl.lss rfl rfl rfl ?_
        refine Wl.nil ?_
        refine Wx.then_n ?_
        refine Wc.condp rfl (fun h85 => ?_) (fun h85 => ?_)
        ·
          refine Wc.skip ?_
          refine Wx.then_n ?_
          refine Wc.block ?_
          refine Wc.seq ?_
          refine Wc.region ?_
          refine Wl.move rfl rfl ?_
          refine Wl.move rfl rfl ?_
          refine Wl.add rfl rfl rfl (by omega) ?_
          refine Wl.conv Tryz.underlying3 Tryz.underlying221 rfl (IntWalk.u64_in _ (by omega)) rfl ?_
          refine Wl.shr1 rfl rfl (by decide) rfl ?_
          refine Wl.conv Tryz.underlying221 Tryz.underlying3 rfl (IntWalk.i64_in _ (by omega)) rfl ?_
          refine Wl.assign rfl rfl ?_
          refine Wl.nil ?_
          refine Wx.then_n ?_
          refine Wc.seq ?_
          obtain ⟨hh, hhe⟩ : ∃ hh : Nat, ((i : Int) + j) / 2 = hh := ⟨(i + j) / 2, by omega⟩
          rw [hhe]
          obtain ⟨g, rfl⟩ := hA (by omega)
          refine Wc.draw mixed (by kernel_rfl) (fun w hw => hw.drew) ?_
          refine Wl.move rfl rfl ?_
          refine Wl.move rfl rfl ?_
          refine Wl.move rfl rfl ?_
          refine Wl.idx (j := (mm)) Tryz.underlying53 t166 rfl rfl rfl (by omega) ?_
          refine Wl.loads_at (cs := (ePane ((d).toList[mm]'(by simp [Array.length_toList]; omega)))) t166 rfl rfl rfl (fun w hw => St.own_cells2 (enc := ePane) (sz := 4) hw 0 rfl (fun _ => rfl) (fun _ => rfl) (by decide) (mm) (by simp [Array.length_toList]; omega)) ?_
          refine Wl.move rfl rfl ?_
          refine Wl.move rfl rfl ?_
          refine Wl.idx (j := (hh)) Tryz.underlying53 t166 rfl rfl rfl (by omega) ?_
          refine Wl.loads_at (cs := (ePane ((d).toList[hh]'(by simp [Array.length_toList]; omega)))) t166 rfl rfl rfl (fun w hw => St.own_cells2 (enc := ePane) (sz := 4) hw 0 rfl (fun _ => rfl) (fun _ => rfl) (by decide) (hh) (by simp [Array.length_toList]; omega)) ?_
          refine Wl.callF [_, _] (cap := []) Tryz.func196 rfl rfl rfl rfl rfl (fun w hw => order_callsV _ _ _ w) ?_
          refine Wl.lss rfl rfl rfl ?_
          refine Wl.not rfl rfl ?_
          refine Wl.nilq ?_
          refine Wx.then_n ?_
          refine Wc.cond rfl (fun h103 => ?_) (fun h103 => ?_)
          ·
            have hlt : lessP d[mm]! d[hh]! = false := by rw [← at_list d (mm) (by simp; omega), ← at_list d (hh) (by simp; omega)]; exact cmpP_nneg (by simpa using h103)
            refine Wc.region ?_
            refine Wl.move rfl rfl ?_
            refine Wl.add rfl rfl rfl (by omega) ?_
            refine Wl.assign rfl rfl ?_
            refine Wl.nil ?_
            refine Wx.block_n ?_
            exact Wx.againS ⟨hh + 1, j⟩ (by (try dsimp only); omega) ⟨rfl, rfl, rfl, rfl, rfl, rfl, rfl, trivial⟩ ⟨by (try dsimp only); omega, by (try dsimp only); omega, q3, fun k k1 k2 => lessP_to.leT (le_refl' lessP_to s1 k hh k1 (by (try dsimp only at *); omega) (by omega)) hlt, q5⟩ (fun w hw => hw)
          ·
            have hlt : lessP d[mm]! d[hh]! = true := by rw [← at_list d (mm) (by simp; omega), ← at_list d (hh) (by simp; omega)]; exact cmpP_neg.1 (by simpa using h103)
            refine Wc.region ?_
            refine Wl.move rfl rfl ?_
            refine Wl.assign rfl rfl ?_
            refine Wl.nil ?_
            refine Wx.block_n ?_
            exact Wx.againS ⟨i, hh⟩ (by (try dsimp only); omega) ⟨rfl, rfl, rfl, rfl, rfl, rfl, rfl, trivial⟩ ⟨q1, by (try dsimp only); omega, by (try dsimp only); omega, q4, fun k k1 k2 => lessP_to.le_lt hlt (le_refl' lessP_to s1 hh k (by (try dsimp only at *); omega) (by (try dsimp only at *); omega) k2)⟩ (fun w hw => hw)
        ·
          obtain rfl : i = j := by omega
          refine Wc.exit ?_
          refine Wx.then_e ?_
          refine Wx.then_e ?_
          refine Wx.block_e ?_
          refine Wx.then_n ?_
          refine Wc.seq ?_
          refine Wc.seq ?_
          refine Wc.region ?_
          refine Wl.move rfl rfl ?_
          refine Wl.assign rfl rfl ?_
          refine Wl.nil ?_
          refine Wx.then_n ?_
          refine Wc.block ?_
          refine Wc.loopS (G := Nat × Nat) (fun g => match g with | ⟨k, z⟩ => [(0, .slice A d.size cp), (1, .int .i64 a), (2, .int .i64 mm), (3, .int .i64 (mm + 1 : Nat)), (4, .func (.func 196) #[] #[]), (14, .int .i64 i), (17, .int .i64 k)]) (fun g => match g with | ⟨k, z⟩ => i ≤ k ∧ k + z = mm) (fun g => match g with | ⟨k, z⟩ => [rowOf ePane (.slice A d.size cp) 166 4 (shiftDn d mm z).toList]) (fun g => match g with | ⟨k, z⟩ => fun _ => True) (fun g => match g with | ⟨k, z⟩ => k) ⟨mm, 0⟩ ⟨rfl, rfl, rfl, rfl, rfl, rfl, rfl, trivial⟩ ⟨q3, rfl⟩ (fun w hw => hw) ?_
          rintro ⟨k, z⟩ ⟨hk0, hkz⟩
          dsimp only
          have hd1 : (shiftDn d mm z).size = d.size := shiftDn_size d mm z
          refine Wc.seq ?_
          refine Wc.seq ?_
          refine Wc.region ?_
          refine Wl.move rfl rfl ?_
          refine Wl.move rfl rfl ?_
          refine Wl.gtr rfl rfl rfl ?_
          refine Wl.nil ?_
          refine Wx.then_n ?_
          refine Wc.condp rfl (fun h110 => ?_) (fun h110 => ?_)
          ·
            obtain ⟨q, rfl⟩ : ∃ q, k = q + 1 := ⟨k - 1, by omega⟩
            have ek : mm - z = q + 1 := by omega
            obtain ⟨g, rfl⟩ := hA (by omega)
            refine Wc.skip ?_
            refine Wx.then_n ?_
            refine Wc.seq ?_
            refine Wc.block ?_
            refine Wc.drawp [2, 3, 4] [0, 1, 5, 6, 7, 8, 9, 10, 11, 12, 13, 14] 15 mixed (by kernel_rfl) (fun w hw => hw.drew) ?_
            refine Wl.move rfl rfl ?_
            refine Wl.move rfl rfl ?_
            refine Wl.sub rfl rfl rfl (by omega) ?_
            refine Wl.nilp ?_
            refine Wl.move rfl rfl ?_
            refine Wl.move rfl rfl ?_
            refine Wl.move rfl rfl ?_
            refine Wl.move rfl rfl ?_
            refine Wl.sub rfl rfl rfl (by omega) ?_
            refine Wl.idx (j := (q)) Tryz.underlying53 t166 rfl (congrArg (fun z => some (Value.int .i64 z)) (by omega)) rfl (by omega) ?_
            refine Wl.loads_at (cs := (ePane ((shiftDn d mm z).toList[q]'(by simp [hd1]; omega)))) t166 rfl rfl rfl (fun w hw => St.own_cells2 (enc := ePane) (sz := 4) hw 0 rfl (fun _ => rfl) (fun _ => rfl) (by decide) (q) (by simp [hd1]; omega)) ?_
            refine Wl.move rfl rfl ?_
            refine Wl.move rfl rfl ?_
            refine Wl.idx (j := (q + 1)) Tryz.underlying53 t166 rfl rfl rfl (by omega) ?_
            refine Wl.loads_at (cs := (ePane ((shiftDn d mm z).toList[q + 1]'(by simp [hd1]; omega)))) t166 rfl rfl rfl (fun w hw => St.own_cells2 (enc := ePane) (sz := 4) hw 0 rfl (fun _ => rfl) (fun _ => rfl) (by decide) (q + 1) (by simp [hd1]; omega)) ?_
            refine Wl.idx (j := (q + 1)) Tryz.underlying53 t166 rfl rfl rfl (by omega) ?_
            refine Wl.nilt ?_
            refine Wl.storee 0 (q + 1) 0 (((shiftDn d mm z).toList[q]'(by simp [hd1]; omega))) t166 rfl rfl rfl (by simp [hd1]) (fun _ => rfl) rfl rfl rfl (by simp [hd1]; omega) (addr_at _ _) (Nat.le_of_ble_eq_true rfl) rfl ?_
            refine Wl.idx (j := q) Tryz.underlying53 t166 rfl (congrArg (fun z => some (Value.int .i64 z)) (by omega)) rfl (by omega) ?_
            refine Wl.storee 0 (q) 0 (((shiftDn d mm z).toList[q + 1]'(by simp [hd1]; omega))) t166 rfl rfl rfl (by simp [hd1]) (fun _ => rfl) rfl rfl rfl (by simp [hd1]; omega) (addr_at _ _) (Nat.le_of_ble_eq_true rfl) rfl ?_
            refine Wl.nil ?_
            refine Wx.nopanic ?_
            refine Wx.block_n ?_
            refine Wx.then_n ?_
            refine Wc.region ?_
            refine Wl.move rfl rfl ?_
            refine Wl.sub rfl rfl rfl (by omega) ?_
            refine Wl.assign rfl rfl ?_
            refine Wl.nil ?_
            exact Wx.againS ⟨q, z + 1⟩ (by (try dsimp only); omega) ⟨rfl, rfl, rfl, rfl, rfl, rfl, congrArg (fun z => some (Value.int .i64 z)) (by omega), trivial⟩ ⟨by (try dsimp only); omega, by (try dsimp only); omega⟩ (fun w hw => by have := swp_list (shiftDn d mm z) (q + 1) q (by simp [hd1]; omega) (by simp [hd1]; omega); simp only [List.set] at hw; rw [this] at hw; simp only [shiftDn, ek, Nat.add_sub_cancel]; exact hw)
          ·
            refine Wc.exit ?_
            refine Wx.then_e ?_
            refine Wx.then_e ?_
            refine Wx.block_e ?_
            refine Wx.then_n ?_
            refine Wc.ret ?_
            refine Wx.then_r ?_
            obtain rfl : z = mm - i := by omega
            exact Wx.retW (.inl rfl) rfl (by simp only [Array.toArray_toList]; exact sym_last lessP_to h3 q1 q3 s1 q4 q5) (fun w hw => hw)
      ·
        refine Wc.skip ?_
        refine Wx.then_n ?_
        refine Wc.seq ?_
        refine Wc.region ?_
        refine Wl.move rfl rfl ?_
        refine Wl.move rfl rfl ?_
        refine Wl.add rfl rfl rfl (by omega) ?_
        refine Wl.conv Tryz.underlying3 Tryz.underlying221 rfl (IntWalk.u64_in _ (by omega)) rfl ?_
        refine Wl.shr1 rfl rfl (by decide) rfl ?_
        refine Wl.conv Tryz.underlying221 Tryz.underlying3 rfl (IntWalk.i64_in _ (by omega)) rfl ?_
        refine Wl.assign rfl rfl ?_
        refine Wl.nil ?_
        refine Wx.then_n ?_
        refine Wc.seq ?_
        obtain ⟨mid, mide⟩ : ∃ mid : Nat, ((a : Int) + b) / 2 = mid := ⟨(a + b) / 2, by omega⟩
        rw [mide]
        have hmid : mid = (a + b) / 2 := by omega
        refine Wc.region ?_
        refine Wl.move rfl rfl ?_
        refine Wl.move rfl rfl ?_
        refine Wl.add rfl rfl rfl (by omega) ?_
        refine Wl.assign rfl rfl ?_
        refine Wl.nil ?_
        refine Wx.then_n ?_
        refine Wc.seq ?_
        refine Wc.region ?_
        refine Wl.assign rfl rfl ?_
        refine Wl.assign rfl rfl ?_
        refine Wl.nil ?_
        refine Wx.then_n ?_
        refine Wc.cutS (G := Nat × Nat) (fun g => match g with | ⟨st, r⟩ => [(0, .slice A d.size cp), (1, .int .i64 a), (2, .int .i64 mm), (3, .int .i64 b), (4, .func (.func 196) #[] #[]), (18, .int .i64 mid), (19, .int .i64 (mid + mm : Nat)), (20, .int .i64 st), (21, .int .i64 r)]) (fun g => match g with | ⟨st, r⟩ => Wide a mm b mid st r) (fun g => match g with | ⟨st, r⟩ => [rowOf ePane (.slice A d.size cp) 166 4 (d).toList]) (fun g => match g with | ⟨st, r⟩ => fun _ => True) ?_ ?_
        ·
          refine Wc.seq ?_
          refine Wc.region ?_
          refine Wl.move rfl rfl ?_
          refine Wl.move rfl rfl ?_
          refine Wl.gtr rfl rfl rfl ?_
          refine Wl.nil ?_
          refine Wx.then_n ?_
          refine Wc.condp rfl (fun h140 => ?_) (fun h140 => ?_)
          ·
            refine Wc.seq ?_
            refine Wc.region ?_
            refine Wl.move rfl rfl ?_
            refine Wl.move rfl rfl ?_
            refine Wl.sub rfl rfl rfl (by omega) ?_
            refine Wl.assign rfl rfl ?_
            refine Wl.nil ?_
            refine Wx.then_n ?_
            refine Wc.region ?_
            refine Wl.move rfl rfl ?_
            refine Wl.assign rfl rfl ?_
            refine Wl.nil ?_
            exact Wx.metS ⟨mid + mm - b, mid⟩ ⟨rfl, rfl, rfl, rfl, rfl, rfl, rfl, congrArg (fun z => some (Value.int .i64 z)) (show (mid : Int) + mm - b = ((mid + mm - b : Nat) : Int) by omega), rfl, trivial⟩ (.inl (by omega)) (fun w hw => hw)
          ·
            refine Wc.seq ?_
            refine Wc.region ?_
            refine Wl.move rfl rfl ?_
            refine Wl.assign rfl rfl ?_
            refine Wl.nil ?_
            refine Wx.then_n ?_
            refine Wc.region ?_
            refine Wl.move rfl rfl ?_
            refine Wl.assign rfl rfl ?_
            refine Wl.nil ?_
            exact Wx.metS ⟨a, mm⟩ ⟨rfl, rfl, rfl, rfl, rfl, rfl, rfl, rfl, rfl, trivial⟩ (.inr (by omega)) (fun w hw => hw)
        ·
          rintro ⟨st, r⟩ hwide
          dsimp only
          refine Wc.seq ?_
          refine Wc.region ?_
          refine Wl.move rfl rfl ?_
          refine Wl.sub rfl rfl rfl (by omega) ?_
          refine Wl.assign rfl rfl ?_
          refine Wl.nil ?_
          refine Wx.then_n ?_
          refine Wc.seq ?_
          refine Wc.block ?_
          refine Wc.loopS (G := Nat × Nat) (fun g => match g with | ⟨s, r'⟩ => [(0, .slice A d.size cp), (1, .int .i64 a), (2, .int .i64 mm), (3, .int .i64 b), (4, .func (.func 196) #[] #[]), (18, .int .i64 mid), (19, .int .i64 (mid + mm : Nat)), (20, .int .i64 s), (21, .int .i64 r'), (22, .int .i64 (mid + mm - 1 : Nat))]) (fun g => match g with | ⟨s, r'⟩ => Cut d (mid + mm) st s r' r) (fun g => match g with | ⟨s, r'⟩ => [rowOf ePane (.slice A d.size cp) 166 4 (d).toList]) (fun g => match g with | ⟨s, r'⟩ => fun _ => True) (fun g => match g with | ⟨s, r'⟩ => r' - s) ⟨st, r⟩ ⟨rfl, rfl, rfl, rfl, rfl, rfl, rfl, rfl, rfl, congrArg (fun z => some (Value.int .i64 z)) (show ((mid + mm : Nat) : Int) - 1 = ((mid + mm - 1 : Nat) : Int) by omega), trivial⟩ ⟨Nat.le_refl _, by unfold Wide at hwide; omega, Nat.le_refl _, fun c _ _ => by (try dsimp only at *); omega, fun c _ _ => by (try dsimp only at *); omega⟩ (fun w hw => hw) ?_
          rintro ⟨s, r'⟩ hcut
          dsimp only
          have hcu := hcut
          obtain ⟨k1, k2, k3, _, _⟩ := hcu
          have hwi := hwide
          unfold Wide at hwi
          refine Wc.seq ?_
          refine Wc.seq ?_
          refine Wc.region ?_
          refine Wl.move rfl rfl ?_
          refine Wl.move rfl rfl ?_
          refine Wl.lss rfl rfl rfl ?_
          refine Wl.nil ?_
          refine Wx.then_n ?_
          refine Wc.condp rfl (fun h151 => ?_) (fun h151 => ?_)
          ·
            refine Wc.skip ?_
            refine Wx.then_n ?_
            refine Wc.block ?_
            refine Wc.seq ?_
            refine Wc.region ?_
            refine Wl.move rfl rfl ?_
            refine Wl.move rfl rfl ?_
            refine Wl.add rfl rfl rfl (by omega) ?_
            refine Wl.conv Tryz.underlying3 Tryz.underlying221 rfl (IntWalk.u64_in _ (by omega)) rfl ?_
            refine Wl.shr1 rfl rfl (by decide) rfl ?_
            refine Wl.conv Tryz.underlying221 Tryz.underlying3 rfl (IntWalk.i64_in _ (by omega)) rfl ?_
            refine Wl.assign rfl rfl ?_
            refine Wl.nil ?_
            refine Wx.then_n ?_
            refine Wc.seq ?_
            obtain ⟨c, ce⟩ : ∃ c : Nat, ((s : Int) + r') / 2 = c := ⟨(s + r') / 2, by omega⟩
            rw [ce]
            obtain ⟨g, rfl⟩ := hA (by omega)
            refine Wc.draw mixed (by kernel_rfl) (fun w hw => hw.drew) ?_
            refine Wl.move rfl rfl ?_
            refine Wl.move rfl rfl ?_
            refine Wl.move rfl rfl ?_
            refine Wl.move rfl rfl ?_
            refine Wl.sub rfl rfl rfl (by omega) ?_
            refine Wl.idx (j := (mid + mm - 1 - c)) Tryz.underlying53 t166 rfl (congrArg (fun z => some (Value.int .i64 z)) (by omega)) rfl (by omega) ?_
            refine Wl.loads_at (cs := (ePane ((d).toList[mid + mm - 1 - c]'(by simp [Array.length_toList]; omega)))) t166 rfl rfl rfl (fun w hw => St.own_cells2 (enc := ePane) (sz := 4) hw 0 rfl (fun _ => rfl) (fun _ => rfl) (by decide) (mid + mm - 1 - c) (by simp [Array.length_toList]; omega)) ?_
            refine Wl.move rfl rfl ?_
            refine Wl.move rfl rfl ?_
            refine Wl.idx (j := (c)) Tryz.underlying53 t166 rfl rfl rfl (by omega) ?_
            refine Wl.loads_at (cs := (ePane ((d).toList[c]'(by simp [Array.length_toList]; omega)))) t166 rfl rfl rfl (fun w hw => St.own_cells2 (enc := ePane) (sz := 4) hw 0 rfl (fun _ => rfl) (fun _ => rfl) (by decide) (c) (by simp [Array.length_toList]; omega)) ?_
            refine Wl.callF [_, _] (cap := []) Tryz.func196 rfl rfl rfl rfl rfl (fun w hw => order_callsV _ _ _ w) ?_
            refine Wl.lss rfl rfl rfl ?_
            refine Wl.not rfl rfl ?_
            refine Wl.nilq ?_
            refine Wx.then_n ?_
            refine Wc.cond rfl (fun h171 => ?_) (fun h171 => ?_)
            ·
              have hlt : lessP d[mid + mm - 1 - c]! d[c]! = false := by rw [← at_list d (mid + mm - 1 - c) (by simp; omega), ← at_list d (c) (by simp; omega)]; exact cmpP_nneg (by simpa using h171)
              refine Wc.region ?_
              refine Wl.move rfl rfl ?_
              refine Wl.add rfl rfl rfl (by omega) ?_
              refine Wl.assign rfl rfl ?_
              refine Wl.nil ?_
              refine Wx.block_n ?_
              exact Wx.againS ⟨c + 1, r'⟩ (by (try dsimp only); omega) ⟨rfl, rfl, rfl, rfl, rfl, rfl, rfl, rfl, rfl, rfl, trivial⟩ (cut_up hmid h1 h2 s1 s2 hwide hcut (by omega) (by omega) hlt) (fun w hw => hw)
            ·
              have hlt : lessP d[mid + mm - 1 - c]! d[c]! = true := by rw [← at_list d (mid + mm - 1 - c) (by simp; omega), ← at_list d (c) (by simp; omega)]; exact cmpP_neg.1 (by simpa using h171)
              refine Wc.region ?_
              refine Wl.move rfl rfl ?_
              refine Wl.assign rfl rfl ?_
              refine Wl.nil ?_
              refine Wx.block_n ?_
              exact Wx.againS ⟨s, c⟩ (by (try dsimp only); omega) ⟨rfl, rfl, rfl, rfl, rfl, rfl, rfl, rfl, rfl, rfl, trivial⟩ (cut_dn hmid h1 h2 s1 s2 hwide hcut (by omega) (by omega) hlt) (fun w hw => hw)
          ·
            obtain rfl : s = r' := by omega
            refine Wc.exit ?_
            refine Wx.then_e ?_
            refine Wx.then_e ?_
            refine Wx.block_e ?_
            refine Wx.then_n ?_
            refine Wc.seq ?_
            refine Wc.region ?_
            refine Wl.move rfl rfl ?_
            refine Wl.move rfl rfl ?_
            refine Wl.sub rfl rfl rfl (by omega) ?_
            refine Wl.assign rfl rfl ?_
            refine Wl.nil ?_
            refine Wx.then_n ?_
            obtain ⟨en, ene⟩ : ∃ en : Nat, ((mid + mm : Nat) : Int) - s = en := ⟨mid + mm - s, by omega⟩
            rw [ene]
            obtain ⟨hord, hLc, hRc⟩ := cut_end (en := en) hmid h1 h2 h3 hwide hcut (by omega)
            refine Wc.cutS (G := Array Pane) (fun g => match g with | d1 => [(0, .slice A d.size cp), (1, .int .i64 a), (2, .int .i64 mm), (3, .int .i64 b), (4, .func (.func 196) #[] #[]), (18, .int .i64 mid), (20, .int .i64 s), (24, .int .i64 en)]) (fun g => match g with | d1 => Sym a s mm mid en b d d1) (fun g => match g with | d1 => [rowOf ePane (.slice A d.size cp) 166 4 (d1).toList]) (fun g => match g with | d1 => fun _ => True) ?_ ?_
            ·
              refine Wc.seq ?_
              refine Wc.region ?_
              refine Wl.move rfl rfl ?_
              refine Wl.move rfl rfl ?_
              refine Wl.lss rfl rfl rfl ?_
              refine Wl.move rfl rfl ?_
              refine Wl.splitp 181 rfl (fun h181 => ?_) (fun h181 => ?_)
              ·
                refine Wl.move rfl rfl ?_
                refine Wl.move rfl rfl ?_
                refine Wl.lss rfl rfl rfl ?_
                refine Wl.pick_t rfl rfl rfl ?_
                refine Wl.nil ?_
                refine Wx.then_n ?_
                refine Wc.condp rfl (fun h185 => ?_) (fun h185 => ?_)
                ·
                  refine Wc.region ?_
                  refine Wl.move rfl rfl ?_
                  refine Wl.move rfl rfl ?_
                  refine Wl.move rfl rfl ?_
                  refine Wl.move rfl rfl ?_
                  refine Wl.move rfl rfl ?_
                  refine Wl.callW 0 [_, .int .i64 s, .int .i64 mm, .int .i64 en, .func (.func 196) #[] #[]] Tryz.func239 rfl rfl rfl rfl rfl (fun w hw => rotate_calls _ w _ d (hw.get (i := 0) rfl) (fun k hk => .inr ⟨_, List.mem_of_getElem? (i := 0) rfl, hk⟩) hsz s mm en (by omega) (by omega) (by omega)) (fun ys191 hys191 => ?_)
                  refine Wl.nil ?_
                  exact Wx.metS ys191.toArray ⟨rfl, rfl, rfl, rfl, rfl, rfl, rfl, rfl, trivial⟩ (Sym.turned hord hys191) (fun w hw => hw)
                ·
                  refine Wc.skip ?_
                  exact Wx.metS d ⟨rfl, rfl, rfl, rfl, rfl, rfl, rfl, rfl, trivial⟩ (Sym.same hord (by omega)) (fun w hw => hw)
              ·
                refine Wl.skip rfl rfl ?_
                refine Wl.skip rfl rfl ?_
                refine Wl.skip rfl rfl ?_
                refine Wl.pick_f rfl rfl rfl ?_
                refine Wl.nil ?_
                refine Wx.then_n ?_
                refine Wc.cond_f rfl ?_
                refine Wc.skip ?_
                exact Wx.metS d ⟨rfl, rfl, rfl, rfl, rfl, rfl, rfl, rfl, trivial⟩ (Sym.same hord (by omega)) (fun w hw => hw)
            ·
              rintro d1 hsym
              dsimp only
              have hd1 : d1.size = d.size := hsym.perm.1
              refine Wc.cutS (G := Array Pane) (fun g => match g with | d2 => [(0, .slice A d.size cp), (1, .int .i64 a), (2, .int .i64 mm), (3, .int .i64 b), (4, .func (.func 196) #[] #[]), (18, .int .i64 mid), (20, .int .i64 s), (24, .int .i64 en)]) (fun g => match g with | d2 => PermIn a mid d1 d2 ∧ SortedIn lessP a mid d2) (fun g => match g with | d2 => [rowOf ePane (.slice A d.size cp) 166 4 (d2).toList]) (fun g => match g with | d2 => fun _ => True) ?_ ?_
              ·
                refine Wc.seq ?_
                refine Wc.region ?_
                refine Wl.move rfl rfl ?_
                refine Wl.move rfl rfl ?_
                refine Wl.lss rfl rfl rfl ?_
                refine Wl.move rfl rfl ?_
                refine Wl.splitp 195 rfl (fun h195 => ?_) (fun h195 => ?_)
                ·
                  refine Wl.move rfl rfl ?_
                  refine Wl.move rfl rfl ?_
                  refine Wl.lss rfl rfl rfl ?_
                  refine Wl.pick_t rfl rfl rfl ?_
                  refine Wl.nil ?_
                  refine Wx.then_n ?_
                  refine Wc.condp rfl (fun h199 => ?_) (fun h199 => ?_)
                  ·
                    refine Wc.region ?_
                    refine Wl.move rfl rfl ?_
                    refine Wl.move rfl rfl ?_
                    refine Wl.move rfl rfl ?_
                    refine Wl.move rfl rfl ?_
                    refine Wl.move rfl rfl ?_
                    refine Wl.callW 0 [_, .int .i64 a, .int .i64 s, .int .i64 mid, .func (.func 196) #[] #[]] Tryz.func238 rfl rfl rfl rfl rfl (fun w hw => ih _ w _ (d1) (hw.get (i := 0) rfl) (fun k hk => .inr ⟨_, List.mem_of_getElem? (i := 0) rfl, hk⟩) (by omega) a s mid (by omega) (by omega) (by omega) (hsym.s1 s1 s2) (hsym.s2 s1 s2) (by omega)) (fun ys205 hys205 => ?_)
                    refine Wl.nil ?_
                    exact Wx.metS ys205.toArray ⟨rfl, rfl, rfl, rfl, rfl, rfl, rfl, rfl, trivial⟩ hys205 (fun w hw => hw)
                  ·
                    refine Wc.skip ?_
                    exact Wx.metS d1 ⟨rfl, rfl, rfl, rfl, rfl, rfl, rfl, rfl, trivial⟩ ⟨permIn_refl _ _ _, by rw [show mid = s by omega]; exact hsym.s1 s1 s2⟩ (fun w hw => hw)
                ·
                  refine Wl.skip rfl rfl ?_
                  refine Wl.skip rfl rfl ?_
                  refine Wl.skip rfl rfl ?_
                  refine Wl.pick_f rfl rfl rfl ?_
                  refine Wl.nil ?_
                  refine Wx.then_n ?_
                  refine Wc.cond_f rfl ?_
                  refine Wc.skip ?_
                  exact Wx.metS d1 ⟨rfl, rfl, rfl, rfl, rfl, rfl, rfl, rfl, trivial⟩ ⟨permIn_refl _ _ _, by rw [show a = s by omega]; exact hsym.s2 s1 s2⟩ (fun w hw => hw)
              ·
                rintro d2 ⟨hp2, hs2⟩
                dsimp only
                have hd2 : d2.size = d.size := hp2.1.trans hd1
                have t3 : SortedIn lessP mid en d2 := fun i j q1 q2 q3 => by (rw [hp2.2.1 i (by omega), hp2.2.1 j (by omega)]; exact hsym.s3 s1 s2 i j q1 q2 q3)
                have t4 : SortedIn lessP en b d2 := fun i j q1 q2 q3 => by (rw [hp2.2.1 i (by omega), hp2.2.1 j (by omega)]; exact hsym.s4 s1 s2 i j q1 q2 q3)
                refine Wc.seq ?_
                refine Wc.region ?_
                refine Wl.move rfl rfl ?_
                refine Wl.move rfl rfl ?_
                refine Wl.lss rfl rfl rfl ?_
                refine Wl.move rfl rfl ?_
                refine Wl.splitp 209 rfl (fun h209 => ?_) (fun h209 => ?_)
                ·
                  refine Wl.move rfl rfl ?_
                  refine Wl.move rfl rfl ?_
                  refine Wl.lss rfl rfl rfl ?_
                  refine Wl.pick_t rfl rfl rfl ?_
                  refine Wl.nil ?_
                  refine Wx.then_n ?_
                  refine Wc.condp rfl (fun h213 => ?_) (fun h213 => ?_)
                  ·
                    refine Wc.region ?_
                    refine Wl.move rfl rfl ?_
                    refine Wl.move rfl rfl ?_
                    refine Wl.move rfl rfl ?_
                    refine Wl.move rfl rfl ?_
                    refine Wl.move rfl rfl ?_
                    refine Wl.callW 0 [_, .int .i64 mid, .int .i64 en, .int .i64 b, .func (.func 196) #[] #[]] Tryz.func238 rfl rfl rfl rfl rfl (fun w hw => ih _ w _ (d2) (hw.get (i := 0) rfl) (fun k hk => .inr ⟨_, List.mem_of_getElem? (i := 0) rfl, hk⟩) (by omega) mid en b (by omega) (by omega) (by omega) (t3) (t4) (by omega)) (fun ys219 hys219 => ?_)
                    refine Wl.nil ?_
                    have hj := sorted_join lessP_to (by omega) (by omega) (by omega) (hsym.cross lessP_to s1 s2 hLc hRc) hp2 hs2 (hys219.1) (hys219.2)
                    exact Wx.retW (.inr rfl) rfl (by (try simp only [Array.toArray_toList]); exact ⟨permIn_trans _ _ _ _ _ hsym.perm hj.1, hj.2⟩) (fun w hw => hw)
                  ·
                    refine Wc.skip ?_
                    have hj := sorted_join lessP_to (by omega) (by omega) (by omega) (hsym.cross lessP_to s1 s2 hLc hRc) hp2 hs2 (permIn_refl _ _ _) ((by rw [show b = en by omega]; exact t3))
                    exact Wx.retW (.inr rfl) rfl (by (try simp only [Array.toArray_toList]); exact ⟨permIn_trans _ _ _ _ _ hsym.perm hj.1, hj.2⟩) (fun w hw => hw)
                ·
                  refine Wl.skip rfl rfl ?_
                  refine Wl.skip rfl rfl ?_
                  refine Wl.skip rfl rfl ?_
                  refine Wl.pick_f rfl rfl rfl ?_
                  refine Wl.nil ?_
                  refine Wx.then_n ?_
                  refine Wc.cond_f rfl ?_
                  refine Wc.skip ?_
                  have hj := sorted_join lessP_to (by omega) (by omega) (by omega) (hsym.cross lessP_to s1 s2 hLc hRc) hp2 hs2 (permIn_refl _ _ _) ((by rw [show mid = en by omega]; exact t4))
                  exact Wx.retW (.inr rfl) rfl (by (try simp only [Array.toArray_toList]); exact ⟨permIn_trans _ _ _ _ _ hsym.perm hj.1, hj.2⟩) (fun w hw => hw)

end Go.Proofs.YtkffjbijamfnoaaGreat
