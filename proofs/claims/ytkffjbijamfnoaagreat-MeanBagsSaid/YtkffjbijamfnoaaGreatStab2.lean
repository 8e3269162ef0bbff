/-
  Panes in order.
-/
import Derived.Test.YtkffjbijamfnoaaGreatStab
set_option linter.unusedVariables false
set_option linter.unusedSimpArgs false
namespace Go.Proofs.YtkffjbijamfnoaaGreat
open Go.RowKit

open Go.Sort
theorem sorted_congr {a b : Nat} {e e' : Array Pane} (h : SortedIn lessP a b e) (hp : ∀ i, a ≤ i → i < b → e'[i]! = e[i]!) : SortedIn lessP a b e' := fun i j h1 h2 h3 => by
  rw [hp i h1 (by omega), hp j (by omega) h3]; exact h i j h1 h2 h3
def First (k : Nat) (e : Array Pane) : Prop := ∀ q, q < k → SortedIn lessP (q * 20) (q * 20 + 20) e
def Blks (bs n : Nat) (e : Array Pane) : Prop := ∀ q, SortedIn lessP (q * bs) (min (q * bs + bs) n) e
def Half (bs n k : Nat) (e : Array Pane) : Prop := (∀ q, q < k → SortedIn lessP (q * (2 * bs)) (q * (2 * bs) + 2 * bs) e) ∧ ∀ q, 2 * k ≤ q → SortedIn lessP (q * bs) (min (q * bs + bs) n) e
theorem first_step {k : Nat} {e e' : Array Pane} (h : First k e) (hp : PermIn (k * 20) (k * 20 + 20) e e') (hs : SortedIn lessP (k * 20) (k * 20 + 20) e') : First (k + 1) e' := fun q hq => by
  by_cases e1 : q = k
  · subst e1; exact hs
  · exact sorted_congr (h q (by omega)) (fun i h1 h2 => hp.2.1 i (by omega))
theorem first_end {k n : Nat} {e e' : Array Pane} (h : First k e) (hn : n < k * 20 + 20) (hp : PermIn (k * 20) n e e') (hs : SortedIn lessP (k * 20) n e') : Blks 20 n e' := fun q => by
  rcases Nat.lt_trichotomy q k with h1 | h1 | h1
  · refine sorted_congr (e := e) (fun i j q1 q2 q3 => h q h1 i j q1 q2 (by omega)) (fun i h2 h3 => hp.2.1 i (by omega))
  · subst h1
    exact fun i j q1 q2 q3 => hs i j q1 q2 (by omega)
  · exact fun i j q1 q2 q3 => by omega
theorem twice (k bs : Nat) : 2 * k * bs = k * (2 * bs) := by rw [Nat.mul_comm 2 k, Nat.mul_assoc]
theorem half_start {bs n : Nat} {e : Array Pane} (h : Blks bs n e) : Half bs n 0 e := ⟨fun q hq => by omega, fun q _ => h q⟩
theorem half_s1 {bs n k : Nat} {e : Array Pane} (h : Half bs n k e) : SortedIn lessP (k * (2 * bs)) (min (k * (2 * bs) + bs) n) e := by
  have := h.2 (2 * k) (Nat.le_refl _)
  rwa [twice] at this
theorem half_s2 {bs n k : Nat} {e : Array Pane} (h : Half bs n k e) : SortedIn lessP (k * (2 * bs) + bs) (min (k * (2 * bs) + bs + bs) n) e := by
  have := h.2 (2 * k + 1) (by omega)
  rwa [Nat.add_mul, twice, Nat.one_mul] at this
theorem half_step {bs n k : Nat} {e e' : Array Pane} (h : Half bs n k e) (hp : PermIn (k * (2 * bs)) (k * (2 * bs) + 2 * bs) e e') (hs : SortedIn lessP (k * (2 * bs)) (k * (2 * bs) + 2 * bs) e') : Half bs n (k + 1) e' := by
  refine ⟨fun q hq => ?_, fun q hq => ?_⟩
  · by_cases e1 : q = k
    · subst e1; exact hs
    · have h1 : (q + 1) * (2 * bs) ≤ k * (2 * bs) := Nat.mul_le_mul_right _ (by omega)
      rw [Nat.add_mul, Nat.one_mul] at h1
      exact sorted_congr (h.1 q (by omega)) (fun i h2 h3 => hp.2.1 i (by omega))
  · have h1 : (2 * k + 2) * bs ≤ q * bs := Nat.mul_le_mul_right _ (by omega)
    rw [Nat.add_mul, twice] at h1
    exact sorted_congr (h.2 q (by omega)) (fun i h2 h3 => hp.2.1 i (by omega))
theorem half_end {bs n k : Nat} {e e' : Array Pane} (h : Half bs n k e) (hn : n < k * (2 * bs) + 2 * bs) (hp : PermIn (k * (2 * bs)) n e e') (hs : SortedIn lessP (k * (2 * bs)) n e') : Blks (2 * bs) n e' := fun q => by
  rcases Nat.lt_trichotomy q k with h1 | h1 | h1
  · have h2 : (q + 1) * (2 * bs) ≤ k * (2 * bs) := Nat.mul_le_mul_right _ (by omega)
    rw [Nat.add_mul, Nat.one_mul] at h2
    refine sorted_congr (e := e) (fun i j q1 q2 q3 => h.1 q h1 i j q1 q2 (by omega)) (fun i h3 h4 => hp.2.1 i (by omega))
  · subst h1
    exact fun i j q1 q2 q3 => hs i j q1 q2 (by omega)
  · have h2 : (k + 1) * (2 * bs) ≤ q * (2 * bs) := Nat.mul_le_mul_right _ (by omega)
    rw [Nat.add_mul, Nat.one_mul] at h2
    exact fun i j q1 q2 q3 => by omega

theorem stable_calls (m : Nat → Prop) (w : World) (v : Value) (d : Array Pane) (hx : (rowOf ePane v 166 4 d.toList).holds w) (hm : ∀ k, v.ownBlock = some k → m k) (hsz : d.size ≤ 4398046511104) :
    Calls Tryz.prog 234 #[v, .int .i64 d.size, .func (.func 196) #[] #[]] w (PostW m w ePane v 166 4 (fun ys => PermIn 0 d.size d ys.toArray ∧ SortedIn lessP 0 d.size ys.toArray)) := by
  refine calls_of_Wc (args := [v, .int .i64 d.size, .func (.func 196) #[] #[]]) 63 Tryz.func234 rfl rfl (by simp) ?_
  refine Wc.startW hx (Ro.const trivial : Ro m w (fun _ => True)) hm ?_
  refine Wc.form 0 rfl (fun A cp e hcp hA => ?_)
  subst e
  rw [Array.length_toList] at hcp hA
  rw [Array.length_toList]
  refine Wc.seq ?_
  refine Wc.region ?_
  refine Wl.assign rfl rfl ?_
  refine Wl.nil ?_
  refine Wx.then_n ?_
  refine Wc.seq ?_
  refine Wc.region ?_
  refine Wl.move rfl rfl ?_
  refine Wl.assign rfl rfl ?_
  refine Wl.assign rfl rfl ?_
  refine Wl.nil ?_
  refine Wx.then_n ?_
  refine Wc.seq ?_
  refine Wc.block ?_
  refine Wc.loopS (G := Nat × Array Pane) (fun g => match g with | ⟨k, e⟩ => [(0, .slice A d.size cp), (1, .int .i64 d.size), (2, .func (.func 196) #[] #[]), (6, .int .i64 20), (7, .int .i64 (k * 20 : Nat)), (8, .int .i64 (k * 20 + 20 : Nat))]) (fun g => match g with | ⟨k, e⟩ => k * 20 ≤ d.size ∧ PermIn 0 d.size d e ∧ First k e) (fun g => match g with | ⟨k, e⟩ => [rowOf ePane (.slice A d.size cp) 166 4 (e).toList]) (fun g => match g with | ⟨k, e⟩ => fun _ => True) (fun g => match g with | ⟨k, e⟩ => d.size - k * 20) ⟨0, d⟩ ⟨rfl, rfl, rfl, rfl, rfl, rfl, trivial⟩ ⟨Nat.zero_le _, permIn_refl _ _ _, fun q hq => by (try dsimp only at hq); omega⟩ (fun w hw => hw) ?_
  rintro ⟨k, e⟩ ⟨q1, q2, q3⟩
  dsimp only
  have hd1 : e.size = d.size := q2.1
  refine Wc.seq ?_
  refine Wc.seq ?_
  refine Wc.region ?_
  refine Wl.move rfl rfl ?_
  refine Wl.move rfl rfl ?_
  refine Wl.leq rfl rfl rfl ?_
  refine Wl.nil ?_
  refine Wx.then_n ?_
  refine Wc.condp rfl (fun h13 => ?_) (fun h13 => ?_)
  ·
    refine Wc.skip ?_
    refine Wx.then_n ?_
    refine Wc.block ?_
    refine Wc.seq ?_
    refine Wc.region ?_
    refine Wl.move rfl rfl ?_
    refine Wl.move rfl rfl ?_
    refine Wl.move rfl rfl ?_
    refine Wl.move rfl rfl ?_
    refine Wl.callW 0 [_, .int .i64 (k * 20 : Nat), .int .i64 (k * 20 + 20 : Nat), .func (.func 196) #[] #[]] Tryz.func237 rfl rfl rfl rfl rfl (fun w hw => insort_calls _ w _ (e) (hw.get (i := 0) rfl) (fun k hk => .inr ⟨_, List.mem_of_getElem? (i := 0) rfl, hk⟩) (by omega) (k * 20) (k * 20 + 20) (by omega) (by omega)) (fun ys18 hys18 => ?_)
    refine Wl.nil ?_
    refine Wx.then_n ?_
    refine Wc.seq ?_
    refine Wc.region ?_
    refine Wl.move rfl rfl ?_
    refine Wl.assign rfl rfl ?_
    refine Wl.nil ?_
    refine Wx.then_n ?_
    refine Wc.region ?_
    refine Wl.move rfl rfl ?_
    refine Wl.move rfl rfl ?_
    refine Wl.add rfl rfl rfl (by omega) ?_
    refine Wl.assign rfl rfl ?_
    refine Wl.nil ?_
    refine Wx.block_n ?_
    exact Wx.againS ⟨k + 1, ys18.toArray⟩ (by (try dsimp only); omega) ⟨rfl, rfl, rfl, rfl, congrArg (fun z => some (Value.int .i64 z)) (by omega), congrArg (fun z => some (Value.int .i64 z)) (by omega), trivial⟩ ⟨by (try dsimp only); omega, permIn_trans _ _ _ _ _ q2 (permIn_mono _ _ _ _ _ _ (by omega) (by omega) (by omega) hys18.1), first_step q3 hys18.1 hys18.2⟩ (fun w hw => hw)
  ·
    have hlt0 : d.size < k * 20 + 20 := by omega
    refine Wc.exit ?_
    refine Wx.then_e ?_
    refine Wx.then_e ?_
    refine Wx.block_e ?_
    refine Wx.then_n ?_
    refine Wc.seq ?_
    refine Wc.region ?_
    refine Wl.move rfl rfl ?_
    refine Wl.move rfl rfl ?_
    refine Wl.move rfl rfl ?_
    refine Wl.move rfl rfl ?_
    refine Wl.callW 0 [_, .int .i64 (k * 20 : Nat), .int .i64 (d.size : Nat), .func (.func 196) #[] #[]] Tryz.func237 rfl rfl rfl rfl rfl (fun w hw => insort_calls _ w _ (e) (hw.get (i := 0) rfl) (fun k hk => .inr ⟨_, List.mem_of_getElem? (i := 0) rfl, hk⟩) (by omega) (k * 20) (d.size) (by omega) (by omega)) (fun ys27 hys27 => ?_)
    refine Wl.nil ?_
    refine Wx.then_n ?_
    refine Wc.block ?_
    refine Wc.loopS (G := Nat × Array Pane) (fun g => match g with | ⟨bs, e⟩ => [(0, .slice A d.size cp), (1, .int .i64 d.size), (2, .func (.func 196) #[] #[]), (6, .int .i64 bs)]) (fun g => match g with | ⟨bs, e⟩ => 1 ≤ bs ∧ PermIn 0 d.size d e ∧ Blks bs d.size e) (fun g => match g with | ⟨bs, e⟩ => [rowOf ePane (.slice A d.size cp) 166 4 (e).toList]) (fun g => match g with | ⟨bs, e⟩ => fun _ => True) (fun g => match g with | ⟨bs, e⟩ => d.size - bs) ⟨20, ys27.toArray⟩ ⟨rfl, rfl, rfl, rfl, trivial⟩ ⟨by decide, permIn_trans _ _ _ _ _ q2 (permIn_mono _ _ _ _ _ _ (by omega) (by omega) (by omega) hys27.1), first_end q3 hlt0 hys27.1 hys27.2⟩ (fun w hw => hw) ?_
    rintro ⟨bs, e⟩ ⟨q1, q2, q3⟩
    dsimp only
    refine Wc.seq ?_
    refine Wc.seq ?_
    refine Wc.region ?_
    refine Wl.move rfl rfl ?_
    refine Wl.move rfl rfl ?_
    refine Wl.lss rfl rfl rfl ?_
    refine Wl.nil ?_
    refine Wx.then_n ?_
    refine Wc.condp rfl (fun h30 => ?_) (fun h30 => ?_)
    ·
      refine Wc.skip ?_
      refine Wx.then_n ?_
      refine Wc.block ?_
      refine Wc.seq ?_
      refine Wc.region ?_
      refine Wl.move rfl rfl ?_
      refine Wl.mulw rfl rfl rfl ?_
      rw [i64_wrap_in (show -9223372036854775808 ≤ 2 * (bs : Int) ∧ 2 * (bs : Int) ≤ 9223372036854775807 by omega)]
      refine Wl.assign rfl rfl ?_
      refine Wl.assign rfl rfl ?_
      refine Wl.nil ?_
      refine Wx.then_n ?_
      refine Wc.seq ?_
      refine Wc.block ?_
      refine Wc.loopS (G := Nat × Array Pane × Nat) (fun g => match g with | ⟨k, e, a⟩ => [(0, .slice A d.size cp), (1, .int .i64 d.size), (2, .func (.func 196) #[] #[]), (6, .int .i64 bs), (7, .int .i64 a), (8, .int .i64 (a + 2 * bs : Nat))]) (fun g => match g with | ⟨k, e, a⟩ => a = k * (2 * bs) ∧ a ≤ d.size ∧ PermIn 0 d.size d e ∧ Half bs d.size k e) (fun g => match g with | ⟨k, e, a⟩ => [rowOf ePane (.slice A d.size cp) 166 4 (e).toList]) (fun g => match g with | ⟨k, e, a⟩ => fun _ => True) (fun g => match g with | ⟨k, e, a⟩ => d.size - a) ⟨0, e, 0⟩ ⟨rfl, rfl, rfl, rfl, rfl, congrArg (fun z => some (Value.int .i64 z)) (by omega), trivial⟩ ⟨(Nat.zero_mul _).symm, Nat.zero_le _, q2, half_start q3⟩ (fun w hw => hw) ?_
      rintro ⟨k, e, a⟩ ⟨qa, p1, p2, p3⟩
      dsimp only
      have hd1 : e.size = d.size := p2.1
      have t1 := half_s1 p3
      have t2 := half_s2 p3
      rw [← qa] at t1 t2
      refine Wc.seq ?_
      refine Wc.seq ?_
      refine Wc.region ?_
      refine Wl.move rfl rfl ?_
      refine Wl.move rfl rfl ?_
      refine Wl.leq rfl rfl rfl ?_
      refine Wl.nil ?_
      refine Wx.then_n ?_
      refine Wc.condp rfl (fun h35 => ?_) (fun h35 => ?_)
      ·
        refine Wc.skip ?_
        refine Wx.then_n ?_
        refine Wc.block ?_
        refine Wc.seq ?_
        refine Wc.region ?_
        refine Wl.move rfl rfl ?_
        refine Wl.move rfl rfl ?_
        refine Wl.move rfl rfl ?_
        refine Wl.move rfl rfl ?_
        refine Wl.add rfl rfl rfl (by omega) ?_
        refine Wl.move rfl rfl ?_
        refine Wl.move rfl rfl ?_
        refine Wl.callW 0 [_, .int .i64 a, .int .i64 (a + bs : Nat), .int .i64 (a + 2 * bs : Nat), .func (.func 196) #[] #[]] Tryz.func238 rfl rfl rfl rfl rfl (fun w hw => symmerge_calls _ _ w _ e (hw.get (i := 0) rfl) (fun k hk => .inr ⟨_, List.mem_of_getElem? (i := 0) rfl, hk⟩) (by omega) a (a + bs) (a + 2 * bs) (by omega) (by omega) (by omega) (fun i j u1 u2 u3 => t1 i j u1 u2 (by omega)) (fun i j u1 u2 u3 => t2 i j u1 u2 (by omega)) (Nat.le_refl _)) (fun ys43 hys43 => ?_)
        refine Wl.nil ?_
        refine Wx.then_n ?_
        refine Wc.seq ?_
        refine Wc.region ?_
        refine Wl.move rfl rfl ?_
        refine Wl.assign rfl rfl ?_
        refine Wl.nil ?_
        refine Wx.then_n ?_
        refine Wc.region ?_
        refine Wl.move rfl rfl ?_
        refine Wl.move rfl rfl ?_
        refine Wl.mulw rfl rfl rfl ?_
        rw [i64_wrap_in (show -9223372036854775808 ≤ 2 * (bs : Int) ∧ 2 * (bs : Int) ≤ 9223372036854775807 by omega)]
        refine Wl.add rfl rfl rfl (by omega) ?_
        refine Wl.assign rfl rfl ?_
        refine Wl.nil ?_
        refine Wx.block_n ?_
        exact Wx.againS ⟨k + 1, ys43.toArray, a + 2 * bs⟩ (by (try dsimp only); omega) ⟨rfl, rfl, rfl, rfl, rfl, congrArg (fun z => some (Value.int .i64 z)) (show (((a + 2 * bs : Nat) : Int) + 2 * bs) = ((a + 2 * bs + 2 * bs : Nat) : Int) by omega), trivial⟩ ⟨by (try dsimp only); rw [Nat.add_mul, Nat.one_mul, ← qa], by (try dsimp only); omega, permIn_trans _ _ _ _ _ p2 (permIn_mono _ _ _ _ _ _ (by omega) (by omega) (by omega) hys43.1), half_step p3 (by rw [← qa]; exact hys43.1) (by rw [← qa]; exact hys43.2)⟩ (fun w hw => hw)
      ·
        have hlt1 : d.size < k * (2 * bs) + 2 * bs := by rw [← qa]; omega
        refine Wc.exit ?_
        refine Wx.then_e ?_
        refine Wx.then_e ?_
        refine Wx.block_e ?_
        refine Wx.then_n ?_
        refine Wc.seq ?_
        refine Wc.seq ?_
        refine Wc.region ?_
        refine Wl.move rfl rfl ?_
        refine Wl.move rfl rfl ?_
        refine Wl.add rfl rfl rfl (by omega) ?_
        refine Wl.assign rfl rfl ?_
        refine Wl.nil ?_
        refine Wx.then_n ?_
        refine Wc.seq ?_
        refine Wc.region ?_
        refine Wl.move rfl rfl ?_
        refine Wl.move rfl rfl ?_
        refine Wl.lss rfl rfl rfl ?_
        refine Wl.nil ?_
        refine Wx.then_n ?_
        refine Wc.condp rfl (fun h54 => ?_) (fun h54 => ?_)
        ·
          refine Wc.region ?_
          refine Wl.move rfl rfl ?_
          refine Wl.move rfl rfl ?_
          refine Wl.move rfl rfl ?_
          refine Wl.move rfl rfl ?_
          refine Wl.move rfl rfl ?_
          refine Wl.callW 0 [_, .int .i64 a, .int .i64 (a + bs : Nat), .int .i64 (d.size : Nat), .func (.func 196) #[] #[]] Tryz.func238 rfl rfl rfl rfl rfl (fun w hw => symmerge_calls _ _ w _ e (hw.get (i := 0) rfl) (fun k hk => .inr ⟨_, List.mem_of_getElem? (i := 0) rfl, hk⟩) (by omega) a (a + bs) (d.size) (by omega) (by omega) (by omega) (fun i j u1 u2 u3 => t1 i j u1 u2 (by omega)) (fun i j u1 u2 u3 => t2 i j u1 u2 (by omega)) (Nat.le_refl _)) (fun ys60 hys60 => ?_)
          refine Wl.nil ?_
          refine Wx.then_n ?_
          refine Wc.region ?_
          refine Wl.move rfl rfl ?_
          refine Wl.mulw rfl rfl rfl ?_
          rw [i64_wrap_in (show -9223372036854775808 ≤ (bs : Int) * 2 ∧ (bs : Int) * 2 ≤ 9223372036854775807 by omega)]
          refine Wl.assign rfl rfl ?_
          refine Wl.nil ?_
          refine Wx.block_n ?_
          exact Wx.againS ⟨2 * bs, ys60.toArray⟩ (by (try dsimp only); omega) ⟨rfl, rfl, rfl, congrArg (fun z => some (Value.int .i64 z)) (show (bs : Int) * 2 = ((2 * bs : Nat) : Int) by omega), trivial⟩ ⟨by (try dsimp only); omega, permIn_trans _ _ _ _ _ p2 (permIn_mono _ _ _ _ _ _ (by omega) (by omega) (by omega) hys60.1), half_end p3 hlt1 (by rw [← qa]; exact hys60.1) (by rw [← qa]; exact hys60.2)⟩ (fun w hw => hw)
        ·
          refine Wc.skip ?_
          refine Wx.then_n ?_
          refine Wc.region ?_
          refine Wl.move rfl rfl ?_
          refine Wl.mulw rfl rfl rfl ?_
          rw [i64_wrap_in (show -9223372036854775808 ≤ (bs : Int) * 2 ∧ (bs : Int) * 2 ≤ 9223372036854775807 by omega)]
          refine Wl.assign rfl rfl ?_
          refine Wl.nil ?_
          refine Wx.block_n ?_
          exact Wx.againS ⟨2 * bs, e⟩ (by (try dsimp only); omega) ⟨rfl, rfl, rfl, congrArg (fun z => some (Value.int .i64 z)) (show (bs : Int) * 2 = ((2 * bs : Nat) : Int) by omega), trivial⟩ ⟨by (try dsimp only); omega, p2, half_end p3 hlt1 (permIn_refl _ _ _) (by rw [← qa]; exact fun i j u1 u2 u3 => t1 i j u1 u2 (by omega))⟩ (fun w hw => hw)
    ·
      refine Wc.exit ?_
      refine Wx.then_e ?_
      refine Wx.then_e ?_
      refine Wx.block_e ?_
      exact Wx.retW (.inr rfl) rfl (by simp only [Array.toArray_toList]; exact ⟨q2, fun i j u1 u2 u3 => by have := q3 0 i j (by omega) u2 (by omega); exact this⟩) (fun w hw => hw)

theorem sortstable_calls (m : Nat → Prop) (w : World) (v : Value) (d : Array Pane) (hx : (rowOf ePane v 166 4 d.toList).holds w) (hm : ∀ k, v.ownBlock = some k → m k) (hsz : d.size ≤ 4398046511104) :
    Calls Tryz.prog 225 #[v, .func (.func 196) #[] #[]] w (PostW m w ePane v 166 4 (fun ys => ys = sortP d.toList)) := by
  refine calls_of_Wc (args := [v, .func (.func 196) #[] #[]]) 9 Tryz.func225 rfl rfl (by simp) ?_
  refine Wc.startW hx (Ro.const trivial : Ro m w (fun _ => True)) hm ?_
  refine Wc.form 0 rfl (fun A cp e hcp hA => ?_)
  subst e
  rw [Array.length_toList] at hcp hA
  rw [Array.length_toList]
  refine Wc.region ?_
  refine Wl.move rfl rfl ?_
  refine Wl.move rfl rfl ?_
  refine Wl.len Tryz.underlying53 rfl rfl ?_
  refine Wl.move rfl rfl ?_
  refine Wl.callW 0 [_, .int .i64 d.size, .func (.func 196) #[] #[]] Tryz.func234 rfl rfl rfl rfl rfl (fun w hw => stable_calls _ w _ d (hw.get (i := 0) rfl) (fun k hk => .inr ⟨_, List.mem_of_getElem? (i := 0) rfl, hk⟩) hsz) (fun ys8 hys8 => ?_)
  refine Wl.nil ?_
  exact Wx.retW (.inr rfl) rfl (isort_eq lessP_to (by simpa using perm_of_permIn hys8.1) (by have h1 := hys8.1.1; have h2 := hys8.2; rw [← h1] at h2; simpa using srt_of_sorted h2)) (fun w hw => hw)

theorem sorted_calls (m : Nat → Prop) (A : Option Addr) (c : Nat) (l : List Pane) (w : World) (hr : Ro m w (fun w => kPane.Row w A l)) (hc : l.length ≤ c) (hl : l.length * 32 ≤ 140737488351232) :
    Calls Tryz.prog 195 #[.slice A l.length c, .func (.func 196) #[] #[]] w (PostO m w ePane 166 4 (sortP l)) := by
  refine calls_of_Wc (args := [.slice A l.length c, .func (.func 196) #[] #[]]) 12 Tryz.func195 rfl rfl (by simp) ?_
  refine Wc.start hr ?_
  refine Wc.seq ?_
  refine Wc.region ?_
  refine Wl.assign rfl rfl ?_
  refine Wl.nil ?_
  refine Wx.then_n ?_
  refine Wc.seq ?_
  refine Wc.region ?_
  refine Wl.move rfl rfl ?_
  refine Wl.callO [_] Tryz.func189 rfl rfl rfl rfl (fun w hw => clone_panes _ A c l w (hw.read fun w h => h) hc hl) (fun v7 => ?_)
  refine Wl.assign rfl rfl ?_
  refine Wl.nil ?_
  refine Wx.then_n ?_
  refine Wc.seq ?_
  refine Wc.region ?_
  refine Wl.move rfl rfl ?_
  refine Wl.move rfl rfl ?_
  refine Wl.callW 0 [_, .func (.func 196) #[] #[]] Tryz.func225 rfl rfl rfl rfl rfl (fun w hw => sortstable_calls _ w _ l.toArray (hw.get (i := 0) rfl) (fun k hk => .inr ⟨_, List.mem_of_getElem? (i := 0) rfl, hk⟩) (by simp; omega)) (fun ys10 hys10 => ?_)
  obtain rfl := hys10
  refine Wl.nil ?_
  refine Wx.then_n ?_
  refine Wc.seq ?_
  refine Wc.region ?_
  refine Wl.move rfl rfl ?_
  refine Wl.assign rfl rfl ?_
  refine Wl.nil ?_
  refine Wx.then_n ?_
  refine Wc.ret ?_
  exact Wx.retO rfl rfl (fun w hw => hw)

theorem winsort_calls (m : Nat → Prop) (A : Option Addr) (c : Nat) (l : List Pane) (w : World) (hr : Ro m w (fun w => kPane.Row w A l)) (hc : l.length ≤ c) (hl : l.length * 32 ≤ 140737488351232) :
    Calls Tryz.prog 158 #[.slice A l.length c] w (PostO m w ePane 166 4 (sortP l)) := by
  refine calls_of_Wc (args := [.slice A l.length c]) 5 Tryz.func158 rfl rfl (by simp) ?_
  refine Wc.start hr ?_
  refine Wc.seq ?_
  refine Wc.region ?_
  refine Wl.assign rfl rfl ?_
  refine Wl.nil ?_
  refine Wx.then_n ?_
  refine Wc.seq ?_
  refine Wc.region ?_
  refine Wl.move rfl rfl ?_
  refine Wl.callO [_, .func (.func 196) #[] #[]] Tryz.func195 rfl rfl rfl rfl (fun w hw => sorted_calls _ A c l w (hw.read fun w h => h) hc hl) (fun v4 => ?_)
  refine Wl.assign rfl rfl ?_
  refine Wl.nil ?_
  refine Wx.then_n ?_
  refine Wc.ret ?_
  exact Wx.retO rfl rfl (fun w hw => hw)

end Go.Proofs.YtkffjbijamfnoaaGreat
