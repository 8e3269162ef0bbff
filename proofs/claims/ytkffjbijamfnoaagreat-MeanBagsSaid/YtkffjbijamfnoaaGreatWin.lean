/-
  Windows, as the program works them out.
-/
import Derived.Test.YtkffjbijamfnoaaGreatStab2
import Derived.Test.YtkffjbijamfnoaaGreatMeanB
set_option linter.unusedVariables false
set_option linter.unusedSimpArgs false
namespace Go.Proofs.YtkffjbijamfnoaaGreat
open Go.RowKit

open Go.Sort
/-- Turned round but for the middle. -/
structure Turned (d : Array Span) (k : Nat) (e : Array Span) : Prop where
  size : e.size = d.size
  ends : ∀ i, i < d.size → i < k ∨ d.size - k ≤ i → e[i]! = d[d.size - 1 - i]!
  mid : ∀ i, k ≤ i → i < d.size - k → e[i]! = d[i]!
theorem Turned.start (d : Array Span) : Turned d 0 d := ⟨rfl, fun i h1 h2 => by omega, fun _ _ _ => rfl⟩
theorem Turned.step {d e : Array Span} {k : Nat} (h : Turned d k e) (hk : k + k + 1 < d.size) : Turned d (k + 1) (swp e k (d.size - 1 - k)) := by
  have hs := h.size
  refine ⟨by rw [size_swp]; exact hs, fun i h1 h2 => ?_, fun i h1 h2 => ?_⟩
  · by_cases e1 : i = k
    · subst e1
      rw [swp_left _ _ _ (by omega) (by omega), h.mid _ (by omega) (by omega)]
    · by_cases e2 : i = d.size - 1 - k
      · subst e2
        rw [swp_right _ _ _ (by omega), h.mid _ (by omega) (by omega)]
        congr 1; omega
      · rw [swp_other _ _ _ _ e1 e2, h.ends i h1 (by omega)]
  · rw [swp_other _ _ _ _ (by omega) (by omega), h.mid i (by omega) (by omega)]
theorem Turned.done {d e : Array Span} {k : Nat} (h : Turned d k e) (hk : d.size ≤ k + k + 1) : e.toList = d.toList.reverse := by
  have hs := h.size
  apply List.ext_getElem (by simp [hs])
  intro i h1 h2
  have hi : i < d.size := by simpa [hs] using h1
  have key : e[i]! = d[d.size - 1 - i]! := by
    by_cases h3 : i < k ∨ d.size - k ≤ i
    · exact h.ends i hi h3
    · rw [h.mid i (by omega) (by omega)]
      congr 1; omega
  rw [getElem!_pos e i (by omega), getElem!_pos d (d.size - 1 - i) (by omega)] at key
  rw [List.getElem_reverse]
  simpa using key
theorem swp_lists (d : Array Span) (i j : Nat) (hi : i < d.toList.length) (hj : j < d.toList.length) : (d.toList.set i d.toList[j]).set j d.toList[i] = (swp d i j).toList := by
  have h1 : i < d.size := by simpa using hi
  have h2 : j < d.size := by simpa using hj
  unfold swp
  rw [Array.toList_setIfInBounds, Array.toList_setIfInBounds, getElem!_pos d j h2, getElem!_pos d i h1]
  rfl

theorem reverse_calls (m : Nat → Prop) (w : World) (v : Value) (d : Array Span) (hx : (rowOf eSpan v 164 2 d.toList).holds w) (hm : ∀ k, v.ownBlock = some k → m k) (hsz : d.size ≤ 4398046511104) :
    Calls Tryz.prog 230 #[v] w (PostW m w eSpan v 164 2 (fun ys => ys = d.toList.reverse)) := by
  refine calls_of_Wc (args := [v]) 28 Tryz.func230 rfl rfl (by simp) ?_
  refine Wc.startW hx (Ro.const trivial : Ro m w (fun _ => True)) hm ?_
  refine Wc.form 0 rfl (fun A cp e hcp hA => ?_)
  subst e
  rw [Array.length_toList] at hcp hA
  rw [Array.length_toList]
  refine Wc.seq ?_
  refine Wc.region ?_
  refine Wl.move rfl rfl ?_
  refine Wl.len Tryz.underlying214 rfl rfl ?_
  refine Wl.sub rfl rfl rfl (by omega) ?_
  refine Wl.assign rfl rfl ?_
  refine Wl.assign rfl rfl ?_
  refine Wl.nil ?_
  refine Wx.then_n ?_
  refine Wc.block ?_
  refine Wc.loopS (G := Nat × Array Span) (fun g => match g with | ⟨k, e⟩ => [(0, .slice A d.size cp), (2, .int .i64 k), (3, .int .i64 ((d.size : Int) - 1 - k))]) (fun g => match g with | ⟨k, e⟩ => k ≤ d.size ∧ Turned d k e) (fun g => match g with | ⟨k, e⟩ => [rowOf eSpan (.slice A d.size cp) 164 2 e.toList]) (fun g => match g with | ⟨k, e⟩ => fun _ => True) (fun g => match g with | ⟨k, e⟩ => d.size - k) ⟨0, d⟩ ⟨rfl, rfl, congrArg (fun z => some (Value.int .i64 z)) (by omega), trivial⟩ ⟨Nat.zero_le _, Turned.start d⟩ (fun w hw => hw) ?_
  rintro ⟨k, e⟩ ⟨hk0, ht⟩
  dsimp only
  have hd1 : e.size = d.size := ht.size
  refine Wc.seq ?_
  refine Wc.seq ?_
  refine Wc.region ?_
  refine Wl.move rfl rfl ?_
  refine Wl.move rfl rfl ?_
  refine Wl.lss rfl rfl rfl ?_
  refine Wl.nil ?_
  refine Wx.then_n ?_
  refine Wc.condp rfl (fun h9 => ?_) (fun h9 => ?_)
  ·
    have hk : k + k + 1 < d.size := by omega
    obtain ⟨g, rfl⟩ := hA (by omega)
    refine Wc.skip ?_
    refine Wx.then_n ?_
    refine Wc.seq ?_
    refine Wc.block ?_
    refine Wc.drawp [2, 3] [0, 1, 4, 5, 6, 7, 8, 9, 10, 11, 12] 13 mixed (by kernel_rfl) (fun w hw => hw.drew) ?_
    refine Wl.move rfl rfl ?_
    refine Wl.move rfl rfl ?_
    refine Wl.nilp ?_
    refine Wl.move rfl rfl ?_
    refine Wl.move rfl rfl ?_
    refine Wl.move rfl rfl ?_
    refine Wl.move rfl rfl ?_
    refine Wl.idx (j := (d.size - 1 - k)) Tryz.underlying214 t164 rfl (congrArg (fun z => some (Value.int .i64 z)) (by omega)) rfl (by omega) ?_
    refine Wl.loads_at (cs := (eSpan ((e).toList[d.size - 1 - k]'(by simp [hd1]; omega)))) t164 rfl rfl rfl (fun w hw => St.own_cells2 (enc := eSpan) (sz := 2) hw 0 rfl (fun _ => rfl) (fun _ => rfl) (by decide) (d.size - 1 - k) (by simp [hd1]; omega)) ?_
    refine Wl.move rfl rfl ?_
    refine Wl.move rfl rfl ?_
    refine Wl.idx (j := (k)) Tryz.underlying214 t164 rfl rfl rfl (by omega) ?_
    refine Wl.loads_at (cs := (eSpan ((e).toList[k]'(by simp [hd1]; omega)))) t164 rfl rfl rfl (fun w hw => St.own_cells2 (enc := eSpan) (sz := 2) hw 0 rfl (fun _ => rfl) (fun _ => rfl) (by decide) (k) (by simp [hd1]; omega)) ?_
    refine Wl.idx (j := k) Tryz.underlying214 t164 rfl rfl rfl (by omega) ?_
    refine Wl.nilt ?_
    refine Wl.storee 0 (k) 0 ((e.toList[d.size - 1 - k]'(by simp [hd1]; omega))) t164 rfl rfl rfl (by simp [hd1]) (fun _ => rfl) rfl rfl rfl (by simp [hd1]; omega) (addr_at _ _) (Nat.le_of_ble_eq_true rfl) rfl ?_
    refine Wl.idx (j := (d.size - 1 - k)) Tryz.underlying214 t164 rfl (congrArg (fun z => some (Value.int .i64 z)) (by omega)) rfl (by omega) ?_
    refine Wl.storee 0 (d.size - 1 - k) 0 ((e.toList[k]'(by simp [hd1]; omega))) t164 rfl rfl rfl (by simp [hd1]) (fun _ => rfl) rfl rfl rfl (by simp [hd1]; omega) (addr_at _ _) (Nat.le_of_ble_eq_true rfl) rfl ?_
    refine Wl.nil ?_
    refine Wx.nopanic ?_
    refine Wx.block_n ?_
    refine Wx.then_n ?_
    refine Wc.region ?_
    refine Wl.move rfl rfl ?_
    refine Wl.add rfl rfl rfl (by omega) ?_
    refine Wl.move rfl rfl ?_
    refine Wl.sub rfl rfl rfl (by omega) ?_
    refine Wl.assign rfl rfl ?_
    refine Wl.assign rfl rfl ?_
    refine Wl.nil ?_
    exact Wx.againS ⟨k + 1, swp e k (d.size - 1 - k)⟩ (by (try dsimp only); omega) ⟨rfl, rfl, congrArg (fun z => some (Value.int .i64 z)) (by (try dsimp only); omega), trivial⟩ ⟨by (try dsimp only); omega, ht.step hk⟩ (fun w hw => by have := swp_lists e k (d.size - 1 - k) (by simp [hd1]; omega) (by simp [hd1]; omega); simp only [List.set] at hw; rw [this] at hw; exact hw)
  ·
    refine Wc.exit ?_
    refine Wx.then_e ?_
    refine Wx.then_e ?_
    refine Wx.block_e ?_
    exact Wx.retW (.inr rfl) rfl (ht.done (by omega)) (fun w hw => hw)

theorem slideBack_go {size slide t s : Int} {n : Nat} (h : t < s + size) : slideBack size slide t (n + 1) s = ⟨s, s + size⟩ :: slideBack size slide t n (s - slide) := by
  conv => lhs; unfold slideBack
  exact if_pos h
theorem slideBack_zero (size slide t s : Int) : slideBack size slide t 0 s = [] := rfl
theorem slideBack_stop {size slide t s : Int} {n : Nat} (h : ¬ t < s + size) : slideBack size slide t n s = [] := by
  cases n with
  | zero => rfl
  | succ n => unfold slideBack; rw [if_neg h]

theorem winspans_calls (m : Nat → Prop) (x : Win) (t : Int) (w : World) (hr : Ro m w (fun _ => True)) (hw : winOk x = true) (ht : -4398046511104 ≤ t) (ht2 : t ≤ 4398046511104) :
    Calls Tryz.prog 201 #[.agg #[.int .i64 x.kind, .int .i64 x.size, .int .i64 x.slide], .int .i64 t] w (PostO m w eSpan 164 2 (spansOf x t)) := by
  obtain ⟨w1, w2, w3, w4⟩ := winOk_size hw
  have hf1 := floorTo_bd t x.size w1
  have hf2 : x.kind = 2 → floorTo t x.slide ≤ t ∧ t < floorTo t x.slide + x.slide := fun h => floorTo_bd t x.slide (w4 h).1
  refine calls_of_Wc (args := [.agg #[.int .i64 x.kind, .int .i64 x.size, .int .i64 x.slide], .int .i64 t]) 78 Tryz.func201 rfl rfl (by simp) ?_
  refine Wc.start hr ?_
  refine Wc.seq ?_
  refine Wc.region ?_
  refine Wl.box rfl rfl rfl (fun b2 => ?_)
  refine Wl.assign rfl rfl ?_
  refine Wl.nil ?_
  refine Wx.then_n ?_
  refine Wc.seq ?_
  refine Wc.seq ?_
  refine Wc.region ?_
  refine Wl.fld ⟨_, 1, none⟩ fl29_1 rfl rfl rfl ?_
  refine Wl.loadb 0 1 t2 rfl rfl rfl rfl ?_
  refine Wl.lss rfl rfl rfl ?_
  refine Wl.move rfl rfl ?_
  refine Wl.splitp 11 rfl (fun h11 => ?_) (fun h11 => ?_)
  ·
    refine Wl.skip rfl rfl ?_
    refine Wl.skip rfl rfl ?_
    refine Wl.skip rfl rfl ?_
    refine Wl.skip rfl rfl ?_
    refine Wl.skip rfl rfl ?_
    refine Wl.skip rfl rfl ?_
    refine Wl.skip rfl rfl ?_
    refine Wl.skip rfl rfl ?_
    refine Wl.pick_t rfl rfl rfl ?_
    refine Wl.nil ?_
    refine Wx.then_n ?_
    refine Wc.cond_t rfl ?_
    refine Wc.seq ?_
    refine Wc.region ?_
    refine Wl.assign rfl rfl ?_
    refine Wl.nil ?_
    refine Wx.then_n ?_
    refine Wc.ret ?_
    refine Wx.then_r ?_
    omega
  ·
    refine Wl.fld ⟨_, 0, none⟩ fl29_0 rfl rfl rfl ?_
    refine Wl.loadb 0 0 t3 rfl rfl rfl rfl ?_
    refine Wl.eql rfl rfl rfl ?_
    refine Wl.move rfl rfl ?_
    refine Wl.splitp 15 rfl (fun h15 => ?_) (fun h15 => ?_)
    ·
      refine Wl.fld ⟨_, 2, none⟩ fl29_2 rfl rfl rfl ?_
      refine Wl.loadb 0 2 t2 rfl rfl rfl rfl ?_
      refine Wl.lss rfl rfl rfl ?_
      refine Wl.pick_t rfl rfl rfl ?_
      refine Wl.pick_f rfl rfl rfl ?_
      refine Wl.nil ?_
      refine Wx.then_n ?_
      refine Wc.condp rfl (fun h20 => ?_) (fun h20 => ?_)
      ·
        refine Wc.seq ?_
        refine Wc.region ?_
        refine Wl.assign rfl rfl ?_
        refine Wl.nil ?_
        refine Wx.then_n ?_
        refine Wc.ret ?_
        refine Wx.then_r ?_
        omega
      ·
        refine Wc.skip ?_
        refine Wx.then_n ?_
        refine Wc.seq ?_
        refine Wc.seq ?_
        refine Wc.region ?_
        refine Wl.fld ⟨_, 0, none⟩ fl29_0 rfl rfl rfl ?_
        refine Wl.loadb 0 0 t3 rfl rfl rfl rfl ?_
        refine Wl.nil ?_
        refine Wx.then_n ?_
        refine Wc.block ?_
        refine Wc.seq ?_
        refine Wc.region ?_
        refine Wl.eql rfl rfl rfl ?_
        refine Wl.assign rfl rfl ?_
        refine Wl.nil ?_
        refine Wx.then_n ?_
        refine Wc.condp rfl (fun h23 => ?_) (fun h23 => ?_)
        ·
          refine Wc.seq ?_
          refine Wc.region ?_
          refine Wl.move rfl rfl ?_
          refine Wl.fld ⟨_, 1, none⟩ fl29_1 rfl rfl rfl ?_
          refine Wl.loadb 0 1 t2 rfl rfl rfl rfl ?_
          refine Wl.callV [.int .i64 t, .int .i64 x.size] Tryz.func229 rfl rfl rfl rfl (fun w hw => below_calls _ t x.size w (hw.read fun _ _ => trivial) (by omega) (by omega) (by omega) (by omega)) ?_
          refine Wl.assign rfl rfl ?_
          refine Wl.nil ?_
          refine Wx.then_n ?_
          refine Wc.seq ?_
          refine Wc.region ?_
          refine Wl.move rfl rfl ?_
          refine Wl.move rfl rfl ?_
          refine Wl.fld ⟨_, 1, none⟩ fl29_1 rfl rfl rfl ?_
          refine Wl.loadb 0 1 t2 rfl rfl rfl rfl ?_
          refine Wl.add rfl rfl rfl (by omega) ?_
          refine Wl.build (parts := _) [(0, _), (1, _)] [.int .i64 (floorTo t x.size), .int .i64 (floorTo t x.size + x.size)] rfl rfl (fun w => run_build w _ _ _ (by kernel_rfl)) ?_
          refine Wl.slice1 Tryz.underlying214 t164 rfl rfl rfl rfl rfl rfl (fun b35 => ?_)
          refine Wl.assign rfl rfl ?_
          refine Wl.nil ?_
          refine Wx.then_n ?_
          refine Wc.ret ?_
          refine Wx.block_r ?_
          refine Wx.then_r ?_
          omega
        ·
          refine Wc.seq ?_
          refine Wc.region ?_
          refine Wl.eql rfl rfl rfl ?_
          refine Wl.assign rfl rfl ?_
          refine Wl.nil ?_
          refine Wx.then_n ?_
          refine Wc.condp rfl (fun h36 => ?_) (fun h36 => ?_)
          ·
            refine Wc.seq ?_
            refine Wc.region ?_
            refine Wl.move rfl rfl ?_
            refine Wl.move rfl rfl ?_
            refine Wl.fld ⟨_, 1, none⟩ fl29_1 rfl rfl rfl ?_
            refine Wl.loadb 0 1 t2 rfl rfl rfl rfl ?_
            refine Wl.add rfl rfl rfl (by omega) ?_
            refine Wl.build (parts := _) [(0, _), (1, _)] [.int .i64 t, .int .i64 (t + x.size)] rfl rfl (fun w => run_build w _ _ _ (by kernel_rfl)) ?_
            refine Wl.slice1 Tryz.underlying214 t164 rfl rfl rfl rfl rfl rfl (fun b44 => ?_)
            refine Wl.assign rfl rfl ?_
            refine Wl.nil ?_
            refine Wx.then_n ?_
            refine Wc.ret ?_
            refine Wx.block_r ?_
            refine Wx.then_r ?_
            omega
          ·
            refine Wc.seq ?_
            refine Wc.region ?_
            refine Wl.eql rfl rfl rfl ?_
            refine Wl.assign rfl rfl ?_
            refine Wl.nil ?_
            refine Wx.then_n ?_
            refine Wc.condp rfl (fun h45 => ?_) (fun h45 => ?_)
            ·
              refine Wc.seq ?_
              refine Wc.region ?_
              refine Wl.assign rfl rfl ?_
              refine Wl.nil ?_
              refine Wx.then_n ?_
              refine Wc.seq ?_
              refine Wc.seq ?_
              refine Wc.region ?_
              refine Wl.move rfl rfl ?_
              refine Wl.fld ⟨_, 2, none⟩ fl29_2 rfl rfl rfl ?_
              refine Wl.loadb 0 2 t2 rfl rfl rfl rfl ?_
              refine Wl.callV [.int .i64 t, .int .i64 x.slide] Tryz.func229 rfl rfl rfl rfl (fun w hw => below_calls _ t x.slide w (hw.read fun _ _ => trivial) (by omega) (by omega) (by omega) (by omega)) ?_
              refine Wl.assign rfl rfl ?_
              refine Wl.nil ?_
              refine Wx.then_n ?_
              refine Wc.block ?_
              refine Wc.loopS (G := Value × List Span × Int) (fun g => match g with | ⟨v, out, s⟩ => [(1, .int .i64 t), (2, .pointer (some ⟨b2, 0, none⟩)), (6, v), (7, .int .i64 s)]) (fun g => match g with | ⟨v, out, s⟩ => out.length ≤ 64 ∧ out ++ slideBack x.size x.slide t (64 - out.length) s = slideBack x.size x.slide t 64 (floorTo t x.slide) ∧ s ≤ t ∧ t - x.size - x.slide ≤ s) (fun g => match g with | ⟨v, out, s⟩ => [.box b2 [.int .i64 x.kind, .int .i64 x.size, .int .i64 x.slide] 29, rowOf eSpan v 164 2 out]) (fun g => match g with | ⟨v, out, s⟩ => fun _ => True) (fun g => match g with | ⟨v, out, s⟩ => 64 - out.length) ⟨.slice none 0 0, [], floorTo t x.slide⟩ ⟨rfl, rfl, rfl, rfl, trivial⟩ ⟨by decide, by simp, by (try dsimp only); omega, by (try dsimp only); omega⟩ (fun w hw => hw.nil 164 2) ?_
              rintro ⟨v, out, s⟩ ⟨hl, he, hs1, hs2⟩
              dsimp only
              refine Wc.form 1 rfl (fun A cp e hcp hA => ?_)
              subst e
              refine Wc.seq ?_
              refine Wc.seq ?_
              refine Wc.region ?_
              refine Wl.move rfl rfl ?_
              refine Wl.fld ⟨_, 1, none⟩ fl29_1 rfl rfl rfl ?_
              refine Wl.loadb 0 1 t2 rfl rfl rfl rfl ?_
              refine Wl.add rfl rfl rfl (by omega) ?_
              refine Wl.move rfl rfl ?_
              refine Wl.gtr rfl rfl rfl ?_
              refine Wl.move rfl rfl ?_
              refine Wl.splitp 57 rfl (fun h57 => ?_) (fun h57 => ?_)
              ·
                refine Wl.move rfl rfl ?_
                refine Wl.len Tryz.underlying214 rfl rfl ?_
                refine Wl.lss rfl rfl rfl ?_
                refine Wl.pick_t rfl rfl rfl ?_
                refine Wl.nil ?_
                refine Wx.then_n ?_
                refine Wc.condp rfl (fun h61 => ?_) (fun h61 => ?_)
                ·
                  have hlt : out.length < 64 := by omega
                  obtain ⟨nn, hnn⟩ : ∃ nn, 64 - out.length = nn + 1 := ⟨63 - out.length, by omega⟩
                  rw [hnn] at he
                  rw [slideBack_go (by omega)] at he
                  refine Wc.skip ?_
                  refine Wx.then_n ?_
                  refine Wc.seq ?_
                  refine Wc.block ?_
                  refine Wc.region ?_
                  refine Wl.move rfl rfl ?_
                  refine Wl.move rfl rfl ?_
                  refine Wl.move rfl rfl ?_
                  refine Wl.fld ⟨_, 1, none⟩ fl29_1 rfl rfl rfl ?_
                  refine Wl.loadb 0 1 t2 rfl rfl rfl rfl ?_
                  refine Wl.add rfl rfl rfl (by omega) ?_
                  refine Wl.build (parts := _) [(0, _), (1, _)] [.int .i64 s, .int .i64 (s + x.size)] rfl rfl (fun w => run_build w _ _ _ (by kernel_rfl)) ?_
                  refine Wl.slice1 Tryz.underlying214 t164 rfl rfl rfl rfl rfl rfl (fun b73 => ?_)
                  refine Wl.app1e 1 2 ((⟨s, s + x.size⟩ : Span)) Tryz.underlying214 t164 rfl rfl rfl rfl rfl rfl rfl rfl rfl rfl rfl (by omega) (fun v74 => ?_)
                  refine Wl.assign rfl rfl ?_
                  refine Wl.nil ?_
                  refine Wx.block_n ?_
                  refine Wx.then_n ?_
                  refine Wc.region ?_
                  refine Wl.move rfl rfl ?_
                  refine Wl.fld ⟨_, 2, none⟩ fl29_2 rfl rfl rfl ?_
                  refine Wl.loadb 0 2 t2 rfl rfl rfl rfl ?_
                  refine Wl.sub rfl rfl rfl (by omega) ?_
                  refine Wl.assign rfl rfl ?_
                  refine Wl.nil ?_
                  exact Wx.againS ⟨v74, out ++ [(⟨s, s + x.size⟩ : Span)], s - x.slide⟩ (by (try dsimp only); simp only [List.length_append, List.length_singleton]; omega) ⟨rfl, rfl, rfl, rfl, trivial⟩ ⟨by (try dsimp only); simp only [List.length_append, List.length_singleton]; omega, by (try dsimp only); rw [List.length_append, List.length_singleton, show 64 - (out.length + 1) = nn by omega, List.append_assoc]; exact he, by (try dsimp only); omega, by (try dsimp only); omega⟩ (fun w hw => hw.take 2)
                ·
                  rw [show 64 - out.length = 0 by omega] at he
                  refine Wc.exit ?_
                  refine Wx.then_e ?_
                  refine Wx.then_e ?_
                  refine Wx.block_e ?_
                  refine Wx.then_n ?_
                  refine Wc.seq ?_
                  have hee : out = slideBack x.size x.slide t 64 (floorTo t x.slide) := by rw [← he, slideBack_zero, List.append_nil]
                  refine Wc.region ?_
                  refine Wl.move rfl rfl ?_
                  refine Wl.callW 1 [_] Tryz.func230 rfl rfl rfl rfl rfl (fun w hw => reverse_calls _ w _ out.toArray (hw.get (i := 1) rfl) (fun k hk => .inr ⟨_, List.mem_of_getElem? (i := 1) rfl, hk⟩) (by simp; omega)) (fun ys76 hys76 => ?_)
                  obtain rfl := hys76
                  refine Wl.nil ?_
                  refine Wx.then_n ?_
                  refine Wc.seq ?_
                  refine Wc.region ?_
                  refine Wl.move rfl rfl ?_
                  refine Wl.assign rfl rfl ?_
                  refine Wl.nil ?_
                  refine Wx.then_n ?_
                  refine Wc.ret ?_
                  refine Wx.block_r ?_
                  refine Wx.then_r ?_
                  exact Wx.retO rfl rfl (fun w hw => by rw [show spansOf x t = out.reverse from by unfold spansOf; rw [hee, if_neg (by omega), if_neg (by omega)]]; exact hw.drop 0)
              ·
                refine Wl.skip rfl rfl ?_
                refine Wl.skip rfl rfl ?_
                refine Wl.skip rfl rfl ?_
                refine Wl.pick_f rfl rfl rfl ?_
                refine Wl.nil ?_
                refine Wx.then_n ?_
                refine Wc.cond_f rfl ?_
                refine Wc.exit ?_
                refine Wx.then_e ?_
                refine Wx.then_e ?_
                refine Wx.block_e ?_
                refine Wx.then_n ?_
                refine Wc.seq ?_
                have hee : out = slideBack x.size x.slide t 64 (floorTo t x.slide) := by rw [← he, slideBack_stop (by omega), List.append_nil]
                refine Wc.region ?_
                refine Wl.move rfl rfl ?_
                refine Wl.callW 1 [_] Tryz.func230 rfl rfl rfl rfl rfl (fun w hw => reverse_calls _ w _ out.toArray (hw.get (i := 1) rfl) (fun k hk => .inr ⟨_, List.mem_of_getElem? (i := 1) rfl, hk⟩) (by simp; omega)) (fun ys76 hys76 => ?_)
                obtain rfl := hys76
                refine Wl.nil ?_
                refine Wx.then_n ?_
                refine Wc.seq ?_
                refine Wc.region ?_
                refine Wl.move rfl rfl ?_
                refine Wl.assign rfl rfl ?_
                refine Wl.nil ?_
                refine Wx.then_n ?_
                refine Wc.ret ?_
                refine Wx.block_r ?_
                refine Wx.then_r ?_
                exact Wx.retO rfl rfl (fun w hw => by rw [show spansOf x t = out.reverse from by unfold spansOf; rw [hee, if_neg (by omega), if_neg (by omega)]]; exact hw.drop 0)
            ·
              refine Wc.skip ?_
              refine Wx.block_n ?_
              refine Wx.then_n ?_
              refine Wc.seq ?_
              refine Wc.region ?_
              refine Wl.assign rfl rfl ?_
              refine Wl.nil ?_
              refine Wx.then_n ?_
              refine Wc.ret ?_
              omega
    ·
      refine Wl.skip rfl rfl ?_
      refine Wl.skip rfl rfl ?_
      refine Wl.skip rfl rfl ?_
      refine Wl.pick_f rfl rfl rfl ?_
      refine Wl.pick_f rfl rfl rfl ?_
      refine Wl.nil ?_
      refine Wx.then_n ?_
      refine Wc.cond_f rfl ?_
      refine Wc.skip ?_
      refine Wx.then_n ?_
      refine Wc.seq ?_
      refine Wc.seq ?_
      refine Wc.region ?_
      refine Wl.fld ⟨_, 0, none⟩ fl29_0 rfl rfl rfl ?_
      refine Wl.loadb 0 0 t3 rfl rfl rfl rfl ?_
      refine Wl.nil ?_
      refine Wx.then_n ?_
      refine Wc.block ?_
      refine Wc.seq ?_
      refine Wc.region ?_
      refine Wl.eql rfl rfl rfl ?_
      refine Wl.assign rfl rfl ?_
      refine Wl.nil ?_
      refine Wx.then_n ?_
      refine Wc.condp rfl (fun h23 => ?_) (fun h23 => ?_)
      ·
        refine Wc.seq ?_
        refine Wc.region ?_
        refine Wl.move rfl rfl ?_
        refine Wl.fld ⟨_, 1, none⟩ fl29_1 rfl rfl rfl ?_
        refine Wl.loadb 0 1 t2 rfl rfl rfl rfl ?_
        refine Wl.callV [.int .i64 t, .int .i64 x.size] Tryz.func229 rfl rfl rfl rfl (fun w hw => below_calls _ t x.size w (hw.read fun _ _ => trivial) (by omega) (by omega) (by omega) (by omega)) ?_
        refine Wl.assign rfl rfl ?_
        refine Wl.nil ?_
        refine Wx.then_n ?_
        refine Wc.seq ?_
        refine Wc.region ?_
        refine Wl.move rfl rfl ?_
        refine Wl.move rfl rfl ?_
        refine Wl.fld ⟨_, 1, none⟩ fl29_1 rfl rfl rfl ?_
        refine Wl.loadb 0 1 t2 rfl rfl rfl rfl ?_
        refine Wl.add rfl rfl rfl (by omega) ?_
        refine Wl.build (parts := _) [(0, _), (1, _)] [.int .i64 (floorTo t x.size), .int .i64 (floorTo t x.size + x.size)] rfl rfl (fun w => run_build w _ _ _ (by kernel_rfl)) ?_
        refine Wl.slice1 Tryz.underlying214 t164 rfl rfl rfl rfl rfl rfl (fun b35 => ?_)
        refine Wl.assign rfl rfl ?_
        refine Wl.nil ?_
        refine Wx.then_n ?_
        refine Wc.ret ?_
        refine Wx.block_r ?_
        refine Wx.then_r ?_
        exact Wx.retO rfl rfl (fun w hw => by have := (hw.drop 0).box_row (enc := eSpan) (sz := 2) 0 ⟨floorTo t x.size, floorTo t x.size + x.size⟩ rfl rfl rfl; rw [show spansOf x t = [⟨floorTo t x.size, floorTo t x.size + x.size⟩] from by unfold spansOf; rw [if_pos (by omega)]]; exact this)
      ·
        refine Wc.seq ?_
        refine Wc.region ?_
        refine Wl.eql rfl rfl rfl ?_
        refine Wl.assign rfl rfl ?_
        refine Wl.nil ?_
        refine Wx.then_n ?_
        refine Wc.condp rfl (fun h36 => ?_) (fun h36 => ?_)
        ·
          refine Wc.seq ?_
          refine Wc.region ?_
          refine Wl.move rfl rfl ?_
          refine Wl.move rfl rfl ?_
          refine Wl.fld ⟨_, 1, none⟩ fl29_1 rfl rfl rfl ?_
          refine Wl.loadb 0 1 t2 rfl rfl rfl rfl ?_
          refine Wl.add rfl rfl rfl (by omega) ?_
          refine Wl.build (parts := _) [(0, _), (1, _)] [.int .i64 t, .int .i64 (t + x.size)] rfl rfl (fun w => run_build w _ _ _ (by kernel_rfl)) ?_
          refine Wl.slice1 Tryz.underlying214 t164 rfl rfl rfl rfl rfl rfl (fun b44 => ?_)
          refine Wl.assign rfl rfl ?_
          refine Wl.nil ?_
          refine Wx.then_n ?_
          refine Wc.ret ?_
          refine Wx.block_r ?_
          refine Wx.then_r ?_
          exact Wx.retO rfl rfl (fun w hw => by have := (hw.drop 0).box_row (enc := eSpan) (sz := 2) 0 ⟨t, t + x.size⟩ rfl rfl rfl; rw [show spansOf x t = [⟨t, t + x.size⟩] from by unfold spansOf; rw [if_neg (by omega), if_pos (by omega)]]; exact this)
        ·
          refine Wc.seq ?_
          refine Wc.region ?_
          refine Wl.eql rfl rfl rfl ?_
          refine Wl.assign rfl rfl ?_
          refine Wl.nil ?_
          refine Wx.then_n ?_
          refine Wc.condp rfl (fun h45 => ?_) (fun h45 => ?_)
          ·
            refine Wc.seq ?_
            refine Wc.region ?_
            refine Wl.assign rfl rfl ?_
            refine Wl.nil ?_
            refine Wx.then_n ?_
            refine Wc.seq ?_
            refine Wc.seq ?_
            refine Wc.region ?_
            refine Wl.move rfl rfl ?_
            refine Wl.fld ⟨_, 2, none⟩ fl29_2 rfl rfl rfl ?_
            refine Wl.loadb 0 2 t2 rfl rfl rfl rfl ?_
            refine Wl.callV [.int .i64 t, .int .i64 x.slide] Tryz.func229 rfl rfl rfl rfl (fun w hw => below_calls _ t x.slide w (hw.read fun _ _ => trivial) (by omega) (by omega) (by omega) (by omega)) ?_
            refine Wl.assign rfl rfl ?_
            refine Wl.nil ?_
            refine Wx.then_n ?_
            refine Wc.block ?_
            refine Wc.loopS (G := Value × List Span × Int) (fun g => match g with | ⟨v, out, s⟩ => [(1, .int .i64 t), (2, .pointer (some ⟨b2, 0, none⟩)), (6, v), (7, .int .i64 s)]) (fun g => match g with | ⟨v, out, s⟩ => out.length ≤ 64 ∧ out ++ slideBack x.size x.slide t (64 - out.length) s = slideBack x.size x.slide t 64 (floorTo t x.slide) ∧ s ≤ t ∧ t - x.size - x.slide ≤ s) (fun g => match g with | ⟨v, out, s⟩ => [.box b2 [.int .i64 x.kind, .int .i64 x.size, .int .i64 x.slide] 29, rowOf eSpan v 164 2 out]) (fun g => match g with | ⟨v, out, s⟩ => fun _ => True) (fun g => match g with | ⟨v, out, s⟩ => 64 - out.length) ⟨.slice none 0 0, [], floorTo t x.slide⟩ ⟨rfl, rfl, rfl, rfl, trivial⟩ ⟨by decide, by simp, by (try dsimp only); omega, by (try dsimp only); omega⟩ (fun w hw => hw.nil 164 2) ?_
            rintro ⟨v, out, s⟩ ⟨hl, he, hs1, hs2⟩
            dsimp only
            refine Wc.form 1 rfl (fun A cp e hcp hA => ?_)
            subst e
            refine Wc.seq ?_
            refine Wc.seq ?_
            refine Wc.region ?_
            refine Wl.move rfl rfl ?_
            refine Wl.fld ⟨_, 1, none⟩ fl29_1 rfl rfl rfl ?_
            refine Wl.loadb 0 1 t2 rfl rfl rfl rfl ?_
            refine Wl.add rfl rfl rfl (by omega) ?_
            refine Wl.move rfl rfl ?_
            refine Wl.gtr rfl rfl rfl ?_
            refine Wl.move rfl rfl ?_
            refine Wl.splitp 57 rfl (fun h57 => ?_) (fun h57 => ?_)
            ·
              refine Wl.move rfl rfl ?_
              refine Wl.len Tryz.underlying214 rfl rfl ?_
              refine Wl.lss rfl rfl rfl ?_
              refine Wl.pick_t rfl rfl rfl ?_
              refine Wl.nil ?_
              refine Wx.then_n ?_
              refine Wc.condp rfl (fun h61 => ?_) (fun h61 => ?_)
              ·
                have hlt : out.length < 64 := by omega
                obtain ⟨nn, hnn⟩ : ∃ nn, 64 - out.length = nn + 1 := ⟨63 - out.length, by omega⟩
                rw [hnn] at he
                rw [slideBack_go (by omega)] at he
                refine Wc.skip ?_
                refine Wx.then_n ?_
                refine Wc.seq ?_
                refine Wc.block ?_
                refine Wc.region ?_
                refine Wl.move rfl rfl ?_
                refine Wl.move rfl rfl ?_
                refine Wl.move rfl rfl ?_
                refine Wl.fld ⟨_, 1, none⟩ fl29_1 rfl rfl rfl ?_
                refine Wl.loadb 0 1 t2 rfl rfl rfl rfl ?_
                refine Wl.add rfl rfl rfl (by omega) ?_
                refine Wl.build (parts := _) [(0, _), (1, _)] [.int .i64 s, .int .i64 (s + x.size)] rfl rfl (fun w => run_build w _ _ _ (by kernel_rfl)) ?_
                refine Wl.slice1 Tryz.underlying214 t164 rfl rfl rfl rfl rfl rfl (fun b73 => ?_)
                refine Wl.app1e 1 2 ((⟨s, s + x.size⟩ : Span)) Tryz.underlying214 t164 rfl rfl rfl rfl rfl rfl rfl rfl rfl rfl rfl (by omega) (fun v74 => ?_)
                refine Wl.assign rfl rfl ?_
                refine Wl.nil ?_
                refine Wx.block_n ?_
                refine Wx.then_n ?_
                refine Wc.region ?_
                refine Wl.move rfl rfl ?_
                refine Wl.fld ⟨_, 2, none⟩ fl29_2 rfl rfl rfl ?_
                refine Wl.loadb 0 2 t2 rfl rfl rfl rfl ?_
                refine Wl.sub rfl rfl rfl (by omega) ?_
                refine Wl.assign rfl rfl ?_
                refine Wl.nil ?_
                exact Wx.againS ⟨v74, out ++ [(⟨s, s + x.size⟩ : Span)], s - x.slide⟩ (by (try dsimp only); simp only [List.length_append, List.length_singleton]; omega) ⟨rfl, rfl, rfl, rfl, trivial⟩ ⟨by (try dsimp only); simp only [List.length_append, List.length_singleton]; omega, by (try dsimp only); rw [List.length_append, List.length_singleton, show 64 - (out.length + 1) = nn by omega, List.append_assoc]; exact he, by (try dsimp only); omega, by (try dsimp only); omega⟩ (fun w hw => hw.take 2)
              ·
                rw [show 64 - out.length = 0 by omega] at he
                refine Wc.exit ?_
                refine Wx.then_e ?_
                refine Wx.then_e ?_
                refine Wx.block_e ?_
                refine Wx.then_n ?_
                refine Wc.seq ?_
                have hee : out = slideBack x.size x.slide t 64 (floorTo t x.slide) := by rw [← he, slideBack_zero, List.append_nil]
                refine Wc.region ?_
                refine Wl.move rfl rfl ?_
                refine Wl.callW 1 [_] Tryz.func230 rfl rfl rfl rfl rfl (fun w hw => reverse_calls _ w _ out.toArray (hw.get (i := 1) rfl) (fun k hk => .inr ⟨_, List.mem_of_getElem? (i := 1) rfl, hk⟩) (by simp; omega)) (fun ys76 hys76 => ?_)
                obtain rfl := hys76
                refine Wl.nil ?_
                refine Wx.then_n ?_
                refine Wc.seq ?_
                refine Wc.region ?_
                refine Wl.move rfl rfl ?_
                refine Wl.assign rfl rfl ?_
                refine Wl.nil ?_
                refine Wx.then_n ?_
                refine Wc.ret ?_
                refine Wx.block_r ?_
                refine Wx.then_r ?_
                exact Wx.retO rfl rfl (fun w hw => by rw [show spansOf x t = out.reverse from by unfold spansOf; rw [hee, if_neg (by omega), if_neg (by omega)]]; exact hw.drop 0)
            ·
              refine Wl.skip rfl rfl ?_
              refine Wl.skip rfl rfl ?_
              refine Wl.skip rfl rfl ?_
              refine Wl.pick_f rfl rfl rfl ?_
              refine Wl.nil ?_
              refine Wx.then_n ?_
              refine Wc.cond_f rfl ?_
              refine Wc.exit ?_
              refine Wx.then_e ?_
              refine Wx.then_e ?_
              refine Wx.block_e ?_
              refine Wx.then_n ?_
              refine Wc.seq ?_
              have hee : out = slideBack x.size x.slide t 64 (floorTo t x.slide) := by rw [← he, slideBack_stop (by omega), List.append_nil]
              refine Wc.region ?_
              refine Wl.move rfl rfl ?_
              refine Wl.callW 1 [_] Tryz.func230 rfl rfl rfl rfl rfl (fun w hw => reverse_calls _ w _ out.toArray (hw.get (i := 1) rfl) (fun k hk => .inr ⟨_, List.mem_of_getElem? (i := 1) rfl, hk⟩) (by simp; omega)) (fun ys76 hys76 => ?_)
              obtain rfl := hys76
              refine Wl.nil ?_
              refine Wx.then_n ?_
              refine Wc.seq ?_
              refine Wc.region ?_
              refine Wl.move rfl rfl ?_
              refine Wl.assign rfl rfl ?_
              refine Wl.nil ?_
              refine Wx.then_n ?_
              refine Wc.ret ?_
              refine Wx.block_r ?_
              refine Wx.then_r ?_
              exact Wx.retO rfl rfl (fun w hw => by rw [show spansOf x t = out.reverse from by unfold spansOf; rw [hee, if_neg (by omega), if_neg (by omega)]]; exact hw.drop 0)
          ·
            refine Wc.skip ?_
            refine Wx.block_n ?_
            refine Wx.then_n ?_
            refine Wc.seq ?_
            refine Wc.region ?_
            refine Wl.assign rfl rfl ?_
            refine Wl.nil ?_
            refine Wx.then_n ?_
            refine Wc.ret ?_
            omega

theorem fire_take {P : List Pane} {mk : Int} (k : Nat) (hk : k < P.length) : fireRecs mk (P.take (k + 1)) = (if P[k].span.to - 1 ≤ mk then fireRecs mk (P.take k) ++ [⟨P[k].key, P[k].span.to - 1, P[k].acc⟩] else fireRecs mk (P.take k)) ∧ fireLeft mk (P.take (k + 1)) = (if P[k].span.to - 1 ≤ mk then fireLeft mk (P.take k) else fireLeft mk (P.take k) ++ [P[k]]) := by
  unfold fireRecs fireLeft fired
  rw [List.take_succ_eq_append_getElem hk, List.filter_append, List.filter_append, List.map_append]
  by_cases h : P[k].span.to - 1 ≤ mk <;> simp [h]
theorem fire_len (mk : Int) (P : List Pane) : (fireRecs mk P).length ≤ P.length ∧ (fireLeft mk P).length ≤ P.length := by
  unfold fireRecs fireLeft
  rw [List.length_map]
  exact ⟨List.length_filter_le _ _, List.length_filter_le _ _⟩

theorem winfire_calls (m : Nat → Prop) (A : Option Addr) (c : Nat) (l : List Pane) (mk : Int) (w : World) (hr : Ro m w (fun w => kPane.Row w A l)) (hc : l.length ≤ c) (hl : l.length ≤ 4294967296) (hb : ∀ p ∈ l, -4611686018427387904 ≤ p.span.to ∧ p.span.to ≤ 4611686018427387904) :
    Calls Tryz.prog 169 #[.slice A l.length c, .int .i64 mk] w (Post m w (fun g : Value × Value => .tuple #[g.1, g.2]) (fun _ => True) (fun g => [rowOf eRec g.1 70 3 (fireRecs mk (sortP l)), rowOf ePane g.2 166 4 (fireLeft mk (sortP l))]) (fun _ _ => True)) := by
  refine calls_of_Wc (args := [.slice A l.length c, .int .i64 mk]) 42 Tryz.func169 rfl rfl (by simp) ?_
  refine Wc.start hr ?_
  refine Wc.seq ?_
  refine Wc.region ?_
  refine Wl.assign rfl rfl ?_
  refine Wl.assign rfl rfl ?_
  refine Wl.nil ?_
  refine Wx.then_n ?_
  refine Wc.seq ?_
  refine Wc.region ?_
  refine Wl.assign rfl rfl ?_
  refine Wl.nil ?_
  refine Wx.then_n ?_
  refine Wc.seq ?_
  refine Wc.region ?_
  refine Wl.assign rfl rfl ?_
  refine Wl.nil ?_
  refine Wx.then_n ?_
  refine Wc.seq ?_
  refine Wc.seq ?_
  refine Wc.region ?_
  refine Wl.move rfl rfl ?_
  refine Wl.callO [_] Tryz.func158 rfl rfl rfl rfl (fun w hw => winsort_calls _ A c l w (hw.read fun w h => h) hc (by omega)) (fun v11 => ?_)
  refine Wl.form 0 rfl (fun A11 c11 e11 hc11 _ => ?_)
  subst e11
  refine Wl.freeze 0 rfl ?_
  refine Wl.heap (fun w hw => hw.imp (R' := fun w => kPane.Row w A11 (sortP l)) (fun w h => row_holds h.2)) ?_
  refine Wl.len Tryz.underlying53 rfl rfl ?_
  refine Wl.move rfl rfl ?_
  refine Wl.nil ?_
  refine Wx.then_n ?_
  refine Wc.block ?_
  refine Wc.loopS (G := Value × Value × Nat) (fun g => match g with | ⟨v, v', k⟩ => [(1, .int .i64 mk), (6, v), (7, v'), (11, .slice A11 (sortP l).length c11), (12, .int .i64 (sortP l).length), (13, .int .i64 k)]) (fun g => match g with | ⟨v, v', k⟩ => k ≤ (sortP l).length) (fun g => match g with | ⟨v, v', k⟩ => [rowOf eRec v 70 3 (fireRecs mk ((sortP l).take k)), rowOf ePane v' 166 4 (fireLeft mk ((sortP l).take k))]) (fun g => match g with | ⟨v, v', k⟩ => fun w => kPane.Row w A11 (sortP l)) (fun g => match g with | ⟨v, v', k⟩ => (sortP l).length - k) ⟨.slice none 0 0, .slice none 0 0, 0⟩ ⟨rfl, rfl, rfl, rfl, rfl, rfl, trivial⟩ (Nat.zero_le _) (fun w hw => (hw.nil 70 3).nil 166 4) ?_
  rintro ⟨v, v', k⟩ hk0
  dsimp only
  refine Wc.seq ?_
  refine Wc.region ?_
  refine Wl.lss rfl rfl rfl ?_
  refine Wl.nil ?_
  refine Wx.then_n ?_
  refine Wc.seq ?_
  refine Wc.condp rfl (fun h14 => ?_) (fun h14 => ?_)
  ·
    have hk : k < (sortP l).length := by omega
    refine Wc.pure (p := ∃ ad, A11 = some ad) (fun w hw => hw.addr (fun w h => h) (by omega)) ?_
    rintro ⟨ad, rfl⟩
    obtain ⟨hft, hfl⟩ := fire_take (P := sortP l) (mk := mk) k hk
    have hto := hb (sortP l)[k] ((isort_perm l).mem_iff.1 (List.getElem_mem hk))
    have hfn := fire_len mk ((sortP l).take k)
    have htl := List.length_take_le k (sortP l)
    have hsl : (sortP l).length = l.length := isort_length l
    refine Wc.skip ?_
    refine Wx.then_n ?_
    refine Wc.seq ?_
    refine Wc.block ?_
    refine Wc.seq ?_
    refine Wc.region ?_
    refine Wl.idx Tryz.underlying53 t166 rfl rfl rfl hk ?_
    refine Wl.loadrw (cs := ePane (sortP l)[k]) t166 (fun w h => h.cells k hk) rfl rfl rfl ?_
    refine Wl.alloc t166 rfl rfl (fun b9 => ?_)
    refine Wl.storew 2 t166 rfl rfl rfl rfl rfl rfl rfl ?_
    refine Wl.nil ?_
    refine Wx.then_n ?_
    refine Wc.seq ?_
    refine Wc.region ?_
    refine Wl.fld ⟨_, 1, none⟩ fl166_1 rfl rfl rfl ?_
    refine Wl.fld ⟨_, 2, none⟩ fl164_1 rfl rfl rfl ?_
    refine Wl.loadb 2 2 t2 rfl rfl rfl rfl ?_
    refine Wl.sub rfl rfl rfl (by omega) ?_
    refine Wl.move rfl rfl ?_
    refine Wl.leq rfl rfl rfl ?_
    refine Wl.nil ?_
    refine Wx.then_n ?_
    refine Wc.condp rfl (fun h22 => ?_) (fun h22 => ?_)
    ·
      refine Wc.region ?_
      refine Wl.move rfl rfl ?_
      refine Wl.fld ⟨_, 0, none⟩ fl166_0 rfl rfl rfl ?_
      refine Wl.loadb 2 0 t2 rfl rfl rfl rfl ?_
      refine Wl.fld ⟨_, 1, none⟩ fl166_1 rfl rfl rfl ?_
      refine Wl.fld ⟨_, 2, none⟩ fl164_1 rfl rfl rfl ?_
      refine Wl.loadb 2 2 t2 rfl rfl rfl rfl ?_
      refine Wl.sub rfl rfl rfl (by omega) ?_
      refine Wl.fld ⟨_, 3, none⟩ fl166_2 rfl rfl rfl ?_
      refine Wl.loadb 2 3 t2 rfl rfl rfl rfl ?_
      refine Wl.build (parts := _) [(0, _), (1, _), (2, _)] [.int .i64 (sortP l)[k].key, .int .i64 ((sortP l)[k].span.to - 1), .int .i64 (sortP l)[k].acc] rfl rfl (fun w => run_build w _ _ _ (by kernel_rfl)) ?_
      refine Wl.slice1 Tryz.underlying59 t70 rfl rfl rfl rfl rfl rfl (fun b33 => ?_)
      refine Wl.app1e 0 3 ((⟨(sortP l)[k].key, (sortP l)[k].span.to - 1, (sortP l)[k].acc⟩ : Rec)) Tryz.underlying59 t70 rfl rfl rfl rfl rfl rfl rfl rfl rfl rfl rfl (by omega) (fun v34 => ?_)
      refine Wl.assign rfl rfl ?_
      refine Wl.nil ?_
      refine Wx.block_n ?_
      refine Wx.then_n ?_
      refine Wc.region ?_
      refine Wl.add rfl rfl rfl (by omega) ?_
      refine Wl.move rfl rfl ?_
      refine Wl.nil ?_
      exact Wx.againS ⟨v34, v', k + 1⟩ (by (try dsimp only); omega) ⟨rfl, rfl, rfl, rfl, rfl, rfl, trivial⟩ hk (fun w hw => by dsimp only; rw [hft, hfl, if_pos h22, if_pos h22]; exact hw.take 2)
    ·
      refine Wc.region ?_
      refine Wl.move rfl rfl ?_
      refine Wl.loadbw 2 t166 rfl rfl rfl rfl ?_
      refine Wl.slice1 Tryz.underlying53 t166 rfl rfl rfl rfl rfl rfl (fun b37 => ?_)
      refine Wl.app1e 1 3 ((sortP l)[k]) Tryz.underlying53 t166 rfl rfl rfl rfl rfl rfl rfl rfl rfl rfl rfl (by omega) (fun v38 => ?_)
      refine Wl.assign rfl rfl ?_
      refine Wl.nil ?_
      refine Wx.block_n ?_
      refine Wx.then_n ?_
      refine Wc.region ?_
      refine Wl.add rfl rfl rfl (by omega) ?_
      refine Wl.move rfl rfl ?_
      refine Wl.nil ?_
      exact Wx.againS ⟨v, v38, k + 1⟩ (by (try dsimp only); omega) ⟨rfl, rfl, rfl, rfl, rfl, rfl, trivial⟩ hk (fun w hw => by dsimp only; rw [hft, hfl, if_neg h22, if_neg h22]; exact hw.take 2)
  ·
    refine Wc.exit ?_
    refine Wx.then_e ?_
    refine Wx.then_e ?_
    refine Wx.block_e ?_
    refine Wx.then_n ?_
    refine Wc.seq ?_
    refine Wc.region ?_
    refine Wl.move rfl rfl ?_
    refine Wl.move rfl rfl ?_
    refine Wl.assign rfl rfl ?_
    refine Wl.assign rfl rfl ?_
    refine Wl.nil ?_
    refine Wx.then_n ?_
    refine Wc.ret ?_
    obtain rfl : k = (sortP l).length := by omega
    rw [List.take_length]
    exact Wx.retP2 (v, v') v v' rfl rfl rfl rfl trivial (fun w hw => hw.imp fun _ _ => trivial)

def joinGo (agg : Int) (out : List Pane) (E : List Pane) : List Pane := E.foldl (joinStep agg) out
theorem joinGo_drop (agg : Int) (out E : List Pane) (k : Nat) (hk : k < E.length) : joinGo agg out (E.drop k) = joinGo agg (joinStep agg out E[k]) (E.drop (k + 1)) := by
  rw [List.drop_eq_getElem_cons hk]; rfl
theorem joinStep_len (agg : Int) (out : List Pane) (p : Pane) : (joinStep agg out p).length ≤ out.length + 1 := by
  unfold joinStep
  split
  · simp
  · split
    · rw [List.length_set]; omega
    · simp
theorem joinStep_in {agg : Int} {out : List Pane} {p : Pane} (h0 : 0 < out.length) (hk : out[out.length - 1].key = p.key) (hf : p.span.frm < out[out.length - 1].span.to) :
    joinStep agg out p = out.set (out.length - 1) ⟨out[out.length - 1].key, ⟨out[out.length - 1].span.frm, max out[out.length - 1].span.to p.span.to⟩, aggMerge agg out[out.length - 1].acc p.acc⟩ := by
  have e : out.getLast? = some out[out.length - 1] := by rw [List.getLast?_eq_getElem?, List.getElem?_eq_getElem (by omega)]
  unfold joinStep
  rw [e]
  dsimp only
  rw [if_pos ⟨hk, hf⟩]
theorem joinStep_out {agg : Int} {out : List Pane} {p : Pane} (h : ∀ h0 : 0 < out.length, ¬ (out[out.length - 1].key = p.key ∧ p.span.frm < out[out.length - 1].span.to)) : joinStep agg out p = out ++ [p] := by
  unfold joinStep
  split
  · rename_i h1; rw [List.getLast?_eq_none_iff.1 h1]; rfl
  · rename_i x h1
    have h0 : 0 < out.length := by
      cases out with
      | nil => cases h1
      | cons a b => simp
    have e : out.getLast? = some out[out.length - 1] := by rw [List.getLast?_eq_getElem?, List.getElem?_eq_getElem (by omega)]
    rw [e] at h1
    cases h1
    rw [if_neg (h h0)]

theorem join_calls (m : Nat → Prop) (agg : Int) (A : Option Addr) (c : Nat) (l : List Pane) (w : World) (hr : Ro m w (fun w => kPane.Row w A l)) (hc : l.length ≤ c) (hl : l.length ≤ 4294967296) :
    Calls Tryz.prog 204 #[.int .i64 agg, .slice A l.length c] w (PostO m w ePane 166 4 (joinSes agg l)) := by
  refine calls_of_Wc (args := [.int .i64 agg, .slice A l.length c]) 77 Tryz.func204 rfl rfl (by simp) ?_
  refine Wc.start hr ?_
  refine Wc.seq ?_
  refine Wc.region ?_
  refine Wl.assign rfl rfl ?_
  refine Wl.nil ?_
  refine Wx.then_n ?_
  refine Wc.seq ?_
  refine Wc.region ?_
  refine Wl.assign rfl rfl ?_
  refine Wl.nil ?_
  refine Wx.then_n ?_
  refine Wc.seq ?_
  refine Wc.seq ?_
  refine Wc.region ?_
  refine Wl.move rfl rfl ?_
  refine Wl.callO [_] Tryz.func158 rfl rfl rfl rfl (fun w hw => winsort_calls _ A c l w (hw.read fun w h => h) hc (by omega)) (fun v10 => ?_)
  refine Wl.form 0 rfl (fun A10 c10 e10 hc10 _ => ?_)
  subst e10
  refine Wl.freeze 0 rfl ?_
  refine Wl.heap (fun w hw => hw.imp (R' := fun w => kPane.Row w A10 (sortP l)) (fun w h => row_holds h.2)) ?_
  refine Wl.len Tryz.underlying53 rfl rfl ?_
  refine Wl.move rfl rfl ?_
  refine Wl.nil ?_
  refine Wx.then_n ?_
  refine Wc.block ?_
  refine Wc.loopS (G := Value × List Pane × Nat) (fun g => match g with | ⟨v, out, k⟩ => [(0, .int .i64 agg), (5, v), (10, .slice A10 (sortP l).length c10), (11, .int .i64 (sortP l).length), (12, .int .i64 k)]) (fun g => match g with | ⟨v, out, k⟩ => k ≤ (sortP l).length ∧ out.length ≤ k ∧ joinSes agg l = joinGo agg out ((sortP l).drop k)) (fun g => match g with | ⟨v, out, k⟩ => [rowOf ePane v 166 4 out]) (fun g => match g with | ⟨v, out, k⟩ => fun w => kPane.Row w A10 (sortP l)) (fun g => match g with | ⟨v, out, k⟩ => (sortP l).length - k) ⟨.slice none 0 0, [], 0⟩ ⟨rfl, rfl, rfl, rfl, rfl, trivial⟩ ⟨Nat.zero_le _, Nat.zero_le _, rfl⟩ (fun w hw => hw.nil 166 4) ?_
  rintro ⟨v, out, k⟩ ⟨hk0, hol, he⟩
  dsimp only
  refine Wc.seq ?_
  refine Wc.region ?_
  refine Wl.lss rfl rfl rfl ?_
  refine Wl.nil ?_
  refine Wx.then_n ?_
  refine Wc.seq ?_
  refine Wc.condp rfl (fun h13 => ?_) (fun h13 => ?_)
  ·
    have hk : k < (sortP l).length := by omega
    refine Wc.pure (p := ∃ ad, A10 = some ad) (fun w hw => hw.addr (fun w h => h) (by omega)) ?_
    rintro ⟨ad, rfl⟩
    rw [joinGo_drop _ _ _ k hk] at he
    have hsl : (sortP l).length = l.length := isort_length l
    have hjl := joinStep_len agg out (sortP l)[k]
    refine Wc.form 0 rfl (fun A5 c5 e5 hc5 hA5 => ?_)
    subst e5
    generalize hp : (sortP l)[k] = p at he hjl ⊢
    refine Wc.skip ?_
    refine Wx.then_n ?_
    refine Wc.seq ?_
    refine Wc.block ?_
    refine Wc.seq ?_
    refine Wc.region ?_
    refine Wl.idx Tryz.underlying53 t166 rfl rfl rfl hk ?_
    refine Wl.loadrw (cs := ePane p) t166 (fun w h => hp ▸ h.cells k hk) rfl rfl rfl ?_
    refine Wl.alloc t166 rfl rfl (fun b7 => ?_)
    refine Wl.storew 1 t166 rfl rfl rfl rfl rfl rfl rfl ?_
    refine Wl.nil ?_
    refine Wx.then_n ?_
    refine Wc.seq ?_
    refine Wc.seq ?_
    refine Wc.region ?_
    refine Wl.move rfl rfl ?_
    refine Wl.len Tryz.underlying53 rfl rfl ?_
    refine Wl.sub rfl rfl rfl (by omega) ?_
    refine Wl.assign rfl rfl ?_
    refine Wl.nil ?_
    refine Wx.then_n ?_
    refine Wc.seq ?_
    refine Wc.draw mixed (by kernel_rfl) (fun w hw => hw.drew) ?_
    refine Wl.move rfl rfl ?_
    refine Wl.geq rfl rfl rfl ?_
    refine Wl.move rfl rfl ?_
    refine Wl.splitp 21 rfl (fun h21 => ?_) (fun h21 => ?_)
    ·
      have h0 : 0 < out.length := by omega
      obtain ⟨g5, rfl⟩ := hA5 h0
      refine Wl.move rfl rfl ?_
      refine Wl.move rfl rfl ?_
      refine Wl.idx (j := (out.length - 1)) Tryz.underlying53 t166 rfl (congrArg (fun z => some (Value.int .i64 z)) (by omega)) rfl (by omega) ?_
      refine Wl.fld _ fl166_0 rfl rfl rfl ?_
      refine Wl.loadh (j := 0) (cs := (ePane out[out.length - 1])) t2 (fun w hw => St.own_cells2 (enc := ePane) (sz := 4) hw 0 rfl (fun _ => rfl) (fun _ => rfl) (by decide) (out.length - 1) (by omega)) rfl rfl rfl rfl ?_
      refine Wl.fld ⟨_, 0, none⟩ fl166_0 rfl rfl rfl ?_
      refine Wl.loadb 1 0 t2 rfl rfl rfl rfl ?_
      refine Wl.eql rfl rfl rfl ?_
      refine Wl.pick_t rfl rfl rfl ?_
      refine Wl.move rfl rfl ?_
      refine Wl.splitp 31 rfl (fun h31 => ?_) (fun h31 => ?_)
      ·
        refine Wl.fld ⟨_, 1, none⟩ fl166_1 rfl rfl rfl ?_
        refine Wl.fld ⟨_, 1, none⟩ fl164_0 rfl rfl rfl ?_
        refine Wl.loadb 1 1 t2 rfl rfl rfl rfl ?_
        refine Wl.move rfl rfl ?_
        refine Wl.move rfl rfl ?_
        refine Wl.idx (j := (out.length - 1)) Tryz.underlying53 t166 rfl (congrArg (fun z => some (Value.int .i64 z)) (by omega)) rfl (by omega) ?_
        refine Wl.fld _ fl166_1 rfl rfl rfl ?_
        refine Wl.fld _ fl164_1 rfl rfl rfl ?_
        refine Wl.loadh (j := 2) (cs := (ePane out[out.length - 1])) t2 (fun w hw => St.own_cells2 (enc := ePane) (sz := 4) hw 0 rfl (fun _ => rfl) (fun _ => rfl) (by decide) (out.length - 1) (by omega)) rfl rfl (Addr.add_add' _ _ _) rfl ?_
        refine Wl.lss rfl rfl rfl ?_
        refine Wl.pick_t rfl rfl rfl ?_
        refine Wl.nilq ?_
        refine Wx.then_n ?_
        refine Wc.condp rfl (fun h42 => ?_) (fun h42 => ?_)
        ·
          refine Wc.seq ?_
          refine Wc.drawt 15 mixed (by kernel_rfl) (fun w hw => hw.drew) ?_
          refine Wl.move rfl rfl ?_
          refine Wl.move rfl rfl ?_
          refine Wl.move rfl rfl ?_
          refine Wl.move rfl rfl ?_
          refine Wl.idx (j := (out.length - 1)) Tryz.underlying53 t166 rfl (congrArg (fun z => some (Value.int .i64 z)) (by omega)) rfl (by omega) ?_
          refine Wl.fld _ fl166_1 rfl rfl rfl ?_
          refine Wl.fld _ fl164_1 rfl rfl rfl ?_
          refine Wl.loadh (j := 2) (cs := (ePane out[out.length - 1])) t2 (fun w hw => St.own_cells2 (enc := ePane) (sz := 4) hw 0 rfl (fun _ => rfl) (fun _ => rfl) (by decide) (out.length - 1) (by omega)) rfl rfl (Addr.add_add' _ _ _) rfl ?_
          refine Wl.fld ⟨_, 1, none⟩ fl166_1 rfl rfl rfl ?_
          refine Wl.fld ⟨_, 2, none⟩ fl164_1 rfl rfl rfl ?_
          refine Wl.loadb 1 2 t2 rfl rfl rfl rfl ?_
          refine Wl.maxi rfl rfl rfl ?_
          refine Wl.idx (j := (out.length - 1)) Tryz.underlying53 t166 rfl (congrArg (fun z => some (Value.int .i64 z)) (by omega)) rfl (by omega) ?_
          refine Wl.fld _ fl166_1 rfl rfl rfl ?_
          refine Wl.fld _ fl164_1 rfl rfl rfl ?_
          refine Wl.nilt ?_
          refine Wl.storee 0 ((out.length - 1)) 2 ((⟨out[out.length - 1].key, ⟨out[out.length - 1].span.frm, max out[out.length - 1].span.to p.span.to⟩, out[out.length - 1].acc⟩ : Pane)) t2 rfl rfl rfl rfl (fun _ => rfl) rfl rfl rfl (by omega) (by simp only [Addr.add_add']; exact addr_at _ _) (Nat.le_of_ble_eq_true rfl) rfl ?_
          refine Wl.nil ?_
          refine Wx.then_n ?_
          refine Wc.seq ?_
          generalize ho1 : out.set (out.length - 1) _ = out1
          have hl1 : out1.length = out.length := by rw [← ho1, List.length_set]
          have hx1 : out1[out.length - 1]'(by omega) = (⟨out[out.length - 1].key, ⟨out[out.length - 1].span.frm, max out[out.length - 1].span.to p.span.to⟩, out[out.length - 1].acc⟩ : Pane) := by subst ho1; simp
          refine Wc.drawt 13 mixed (by kernel_rfl) (fun w hw => hw.drew) ?_
          refine Wl.move rfl rfl ?_
          refine Wl.move rfl rfl ?_
          refine Wl.move rfl rfl ?_
          refine Wl.move rfl rfl ?_
          refine Wl.move rfl rfl ?_
          refine Wl.idx (j := (out.length - 1)) Tryz.underlying53 t166 rfl (congrArg (fun z => some (Value.int .i64 z)) (by omega)) rfl (by omega) ?_
          refine Wl.fld _ fl166_2 rfl rfl rfl ?_
          refine Wl.loadh (j := 3) (cs := (ePane (out1[out.length - 1]'(by omega)))) t2 (fun w hw => St.own_cells2 (enc := ePane) (sz := 4) hw 0 rfl (fun _ => rfl) (fun _ => rfl) (by decide) (out.length - 1) (by omega)) rfl rfl rfl rfl ?_
          refine Wl.fld ⟨_, 3, none⟩ fl166_2 rfl rfl rfl ?_
          refine Wl.loadb 1 3 t2 rfl rfl rfl rfl ?_
          refine Wl.callV [_, _, _] Tryz.func153 rfl rfl rfl rfl (fun w hw => aggmerge_calls _ agg _ _ w (hw.read fun _ _ => trivial)) ?_
          refine Wl.idx (j := (out.length - 1)) Tryz.underlying53 t166 rfl (congrArg (fun z => some (Value.int .i64 z)) (by omega)) rfl (by omega) ?_
          refine Wl.fld _ fl166_2 rfl rfl rfl ?_
          refine Wl.nilt ?_
          refine Wl.storee 0 ((out.length - 1)) 3 ((⟨(out1[out.length - 1]'(by omega)).key, (out1[out.length - 1]'(by omega)).span, aggMerge agg (out1[out.length - 1]'(by omega)).acc p.acc⟩ : Pane)) t2 rfl rfl rfl hl1 (fun _ => rfl) rfl rfl rfl (by omega) (by simp only [Addr.add_add']; exact addr_at _ _) (Nat.le_of_ble_eq_true rfl) rfl ?_
          refine Wl.nil ?_
          refine Wx.then_n ?_
          refine Wc.exit ?_
          refine Wx.then_e ?_
          refine Wx.block_e ?_
          refine Wx.then_n ?_
          refine Wc.region ?_
          refine Wl.add rfl rfl rfl (by omega) ?_
          refine Wl.move rfl rfl ?_
          refine Wl.nil ?_
          have hjs : joinStep agg out p = out1.set (out.length - 1) ⟨(out1[out.length - 1]'(by omega)).key, (out1[out.length - 1]'(by omega)).span, aggMerge agg (out1[out.length - 1]'(by omega)).acc p.acc⟩ := by rw [joinStep_in h0 h31 h42, hx1]; subst ho1; rw [List.set_set]
          exact Wx.againS ⟨_, joinStep agg out p, k + 1⟩ (by (try dsimp only); omega) ⟨rfl, rfl, rfl, rfl, rfl, trivial⟩ ⟨hk, by (try dsimp only); omega, he⟩ (fun w hw => by dsimp only; rw [hjs]; exact hw.take 1)
        ·
          refine Wc.skip ?_
          refine Wx.then_n ?_
          refine Wc.region ?_
          refine Wl.move rfl rfl ?_
          refine Wl.loadbw 1 t166 rfl rfl rfl rfl ?_
          refine Wl.slice1 Tryz.underlying53 t166 rfl rfl rfl rfl rfl rfl (fun b73 => ?_)
          refine Wl.app1e 0 2 (p) Tryz.underlying53 t166 rfl rfl rfl rfl rfl rfl rfl rfl rfl rfl rfl (by omega) (fun v74 => ?_)
          refine Wl.assign rfl rfl ?_
          refine Wl.nil ?_
          refine Wx.block_n ?_
          refine Wx.then_n ?_
          refine Wc.region ?_
          refine Wl.add rfl rfl rfl (by omega) ?_
          refine Wl.move rfl rfl ?_
          refine Wl.nil ?_
          exact Wx.againS ⟨v74, joinStep agg out p, k + 1⟩ (by (try dsimp only); omega) ⟨rfl, rfl, rfl, rfl, rfl, trivial⟩ ⟨hk, by (try dsimp only); omega, he⟩ (fun w hw => by dsimp only; rw [joinStep_out (fun _ h => h42 h.2)]; exact hw.take 1)
      ·
        refine Wl.skip rfl rfl ?_
        refine Wl.skip rfl rfl ?_
        refine Wl.skip rfl rfl ?_
        refine Wl.skip rfl rfl ?_
        refine Wl.skip rfl rfl ?_
        refine Wl.skip rfl rfl ?_
        refine Wl.skip rfl rfl ?_
        refine Wl.skip rfl rfl ?_
        refine Wl.skip rfl rfl ?_
        refine Wl.skip rfl rfl ?_
        refine Wl.pick_f rfl rfl rfl ?_
        refine Wl.nilq ?_
        refine Wx.then_n ?_
        refine Wc.cond_f rfl ?_
        refine Wc.skip ?_
        refine Wx.then_n ?_
        refine Wc.region ?_
        refine Wl.move rfl rfl ?_
        refine Wl.loadbw 1 t166 rfl rfl rfl rfl ?_
        refine Wl.slice1 Tryz.underlying53 t166 rfl rfl rfl rfl rfl rfl (fun b73 => ?_)
        refine Wl.app1e 0 2 (p) Tryz.underlying53 t166 rfl rfl rfl rfl rfl rfl rfl rfl rfl rfl rfl (by omega) (fun v74 => ?_)
        refine Wl.assign rfl rfl ?_
        refine Wl.nil ?_
        refine Wx.block_n ?_
        refine Wx.then_n ?_
        refine Wc.region ?_
        refine Wl.add rfl rfl rfl (by omega) ?_
        refine Wl.move rfl rfl ?_
        refine Wl.nil ?_
        exact Wx.againS ⟨v74, joinStep agg out p, k + 1⟩ (by (try dsimp only); omega) ⟨rfl, rfl, rfl, rfl, rfl, trivial⟩ ⟨hk, by (try dsimp only); omega, he⟩ (fun w hw => by dsimp only; rw [joinStep_out (fun _ h => h31 h.1)]; exact hw.take 1)
    ·
      refine Wl.skip rfl rfl ?_
      refine Wl.skip rfl rfl ?_
      refine Wl.skip rfl rfl ?_
      refine Wl.skip rfl rfl ?_
      refine Wl.skip rfl rfl ?_
      refine Wl.skip rfl rfl ?_
      refine Wl.skip rfl rfl ?_
      refine Wl.skip rfl rfl ?_
      refine Wl.pick_f rfl rfl rfl ?_
      refine Wl.move rfl rfl ?_
      refine Wl.skip rfl rfl ?_
      refine Wl.skip rfl rfl ?_
      refine Wl.skip rfl rfl ?_
      refine Wl.skip rfl rfl ?_
      refine Wl.skip rfl rfl ?_
      refine Wl.skip rfl rfl ?_
      refine Wl.skip rfl rfl ?_
      refine Wl.skip rfl rfl ?_
      refine Wl.skip rfl rfl ?_
      refine Wl.skip rfl rfl ?_
      refine Wl.pick_f rfl rfl rfl ?_
      refine Wl.nilq ?_
      refine Wx.then_n ?_
      refine Wc.cond_f rfl ?_
      refine Wc.skip ?_
      refine Wx.then_n ?_
      refine Wc.region ?_
      refine Wl.move rfl rfl ?_
      refine Wl.loadbw 1 t166 rfl rfl rfl rfl ?_
      refine Wl.slice1 Tryz.underlying53 t166 rfl rfl rfl rfl rfl rfl (fun b73 => ?_)
      refine Wl.app1e 0 2 (p) Tryz.underlying53 t166 rfl rfl rfl rfl rfl rfl rfl rfl rfl rfl rfl (by omega) (fun v74 => ?_)
      refine Wl.assign rfl rfl ?_
      refine Wl.nil ?_
      refine Wx.block_n ?_
      refine Wx.then_n ?_
      refine Wc.region ?_
      refine Wl.add rfl rfl rfl (by omega) ?_
      refine Wl.move rfl rfl ?_
      refine Wl.nil ?_
      exact Wx.againS ⟨v74, joinStep agg out p, k + 1⟩ (by (try dsimp only); omega) ⟨rfl, rfl, rfl, rfl, rfl, trivial⟩ ⟨hk, by (try dsimp only); omega, he⟩ (fun w hw => by dsimp only; rw [joinStep_out (fun h0 _ => by omega)]; exact hw.take 1)
  ·
    refine Wc.exit ?_
    refine Wx.then_e ?_
    refine Wx.then_e ?_
    refine Wx.block_e ?_
    refine Wx.then_n ?_
    refine Wc.seq ?_
    refine Wc.region ?_
    refine Wl.move rfl rfl ?_
    refine Wl.assign rfl rfl ?_
    refine Wl.nil ?_
    refine Wx.then_n ?_
    refine Wc.ret ?_
    obtain rfl : k = (sortP l).length := by omega
    obtain rfl : out = joinSes agg l := by rw [he, List.drop_length]; rfl
    exact Wx.retO rfl rfl (fun w hw => hw)

end Go.Proofs.YtkffjbijamfnoaaGreat
