/-
  Items that are not late.
-/
import Derived.Test.YtkffjbijamfnoaaGreatAgg
set_option linter.unusedVariables false
set_option linter.unusedSimpArgs false
namespace Go.Proofs.YtkffjbijamfnoaaGreat
open Go.RowKit

def lateGo : Int → List Item → List Item
  | _, [] => []
  | m, x :: l => if x.kind = 2 then x :: lateGo (max m x.mark) l else if x.rcd.time ≤ m then lateGo m l else x :: lateGo m l
def late (l : List Item) : List Item := lateGo (-9223372036854775808) l
theorem late_drop (l : List Item) (k : Nat) (h : k < l.length) (m : Int) : lateGo m (l.drop k) = if l[k].kind = 2 then l[k] :: lateGo (max m l[k].mark) (l.drop (k+1)) else if l[k].rcd.time ≤ m then lateGo m (l.drop (k+1)) else l[k] :: lateGo m (l.drop (k+1)) := by
  rw [List.drop_eq_getElem_cons h]; rfl

theorem late_calls (m : Nat → Prop) (A : Option Addr) (c : Nat) (l : List Item) (w : World) (hr : Ro m w (fun w => kItem.Row w A l)) (hc : l.length ≤ c) (hl : l.length * 40 ≤ 140737488351232) :
    Calls Tryz.prog 80 #[.slice A l.length c] w (PostR m w kItem (late l)) := by
  refine calls_of_Wc (args := [.slice A l.length c]) 33 Tryz.func80 rfl rfl (by simp) ?_
  refine Wc.start hr ?_
  refine Wc.seq ?_
  refine Wc.region ?_
  refine Wl.assign rfl rfl ?_
  refine Wl.nil ?_
  refine Wx.then_n ?_
  refine Wc.seq ?_
  refine Wc.region ?_
  refine Wl.assign rfl rfl ?_
  refine Wl.nil ?_
  refine Wx.then_n ?_
  refine Wc.seq ?_
  refine Wc.region ?_
  refine Wl.assign rfl rfl ?_
  refine Wl.nil ?_
  refine Wx.then_n ?_
  refine Wc.seq ?_
  refine Wc.seq ?_
  refine Wc.region ?_
  refine Wl.move rfl rfl ?_
  refine Wl.len Tryz.underlying22 rfl rfl ?_
  refine Wl.move rfl rfl ?_
  refine Wl.nil ?_
  refine Wx.then_n ?_
  refine Wc.block ?_
  refine Wc.loopS (G := Value × Nat × Int × List Item) (fun g => match g with | ⟨v, k, mk, xs⟩ => [(3, v), (4, .int .i64 mk), (7, .slice A l.length c), (8, .int .i64 l.length), (9, .int .i64 k)]) (fun g => match g with | ⟨v, k, mk, xs⟩ => k ≤ l.length ∧ xs.length ≤ k ∧ xs ++ lateGo mk (l.drop k) = late l) (fun g => match g with | ⟨v, k, mk, xs⟩ => [rowOf eItem v 100 5 xs]) (fun g => match g with | ⟨v, k, mk, xs⟩ => fun w => kItem.Row w A l) (fun g => match g with | ⟨v, k, mk, xs⟩ => l.length - k) ⟨.slice none 0 0, 0, -9223372036854775808, []⟩ ⟨rfl, rfl, rfl, rfl, rfl, trivial⟩ ⟨Nat.zero_le _, Nat.zero_le _, rfl⟩ (fun w hw => hw.nil 100 5) ?_
  rintro ⟨v, k, mk, xs⟩ ⟨hk, hx, he⟩
  dsimp only
  refine Wc.seq ?_
  refine Wc.region ?_
  refine Wl.lss rfl rfl rfl ?_
  refine Wl.nil ?_
  refine Wx.then_n ?_
  refine Wc.seq ?_
  refine Wc.condp rfl (fun h10 => ?_) (fun h10 => ?_)
  ·
    have hk : k < l.length := by omega
    refine Wc.pure (p := ∃ ad, A = some ad) (fun w hw => hw.now.addr (by intro e; subst e; simp at hk)) ?_
    rintro ⟨ad, rfl⟩
    rw [late_drop l k hk] at he
    refine Wc.skip ?_
    refine Wx.then_n ?_
    refine Wc.seq ?_
    refine Wc.block ?_
    refine Wc.seq ?_
    refine Wc.region ?_
    refine Wl.idx Tryz.underlying22 t100 rfl rfl rfl hk ?_
    refine Wl.loadrw (cs := eItem l[k]) t100 (fun w h => h.cells k hk) rfl rfl rfl ?_
    refine Wl.alloc t100 rfl rfl (fun b6 => ?_)
    refine Wl.storew 1 t100 rfl rfl rfl rfl rfl rfl rfl ?_
    refine Wl.nil ?_
    refine Wx.then_n ?_
    refine Wc.seq ?_
    refine Wc.block ?_
    refine Wc.seq ?_
    refine Wc.region ?_
    refine Wl.fld ⟨_, 0, none⟩ fl100_0 rfl rfl rfl ?_
    refine Wl.loadb 1 0 t3 rfl rfl rfl rfl ?_
    refine Wl.eql rfl rfl rfl ?_
    refine Wl.assign rfl rfl ?_
    refine Wl.nil ?_
    refine Wx.then_n ?_
    refine Wc.condp rfl (fun h13 => ?_) (fun h13 => ?_)
    ·
      refine Wc.region ?_
      refine Wl.move rfl rfl ?_
      refine Wl.fld ⟨_, 4, none⟩ fl100_2 rfl rfl rfl ?_
      refine Wl.loadb 1 4 t2 rfl rfl rfl rfl ?_
      refine Wl.maxi rfl rfl rfl ?_
      refine Wl.assign rfl rfl ?_
      refine Wl.nil ?_
      refine Wx.block_n ?_
      refine Wx.then_n ?_
      refine Wc.region ?_
      refine Wl.move rfl rfl ?_
      refine Wl.loadbw 1 t100 rfl rfl rfl rfl ?_
      refine Wl.slice1 Tryz.underlying22 t100 rfl rfl rfl rfl rfl rfl (fun b29 => ?_)
      refine Wl.app1e 0 2 (l[k]) Tryz.underlying22 t100 rfl rfl rfl rfl rfl rfl rfl rfl rfl rfl rfl (by omega) (fun v30 => ?_)
      refine Wl.assign rfl rfl ?_
      refine Wl.nil ?_
      refine Wx.block_n ?_
      refine Wx.then_n ?_
      refine Wc.region ?_
      refine Wl.add rfl rfl rfl (by omega) ?_
      refine Wl.move rfl rfl ?_
      refine Wl.nil ?_
      exact Wx.againS ⟨v30, k + 1, max mk l[k].mark, xs ++ [l[k]]⟩ (by (try dsimp only); omega) ⟨rfl, rfl, rfl, rfl, rfl, trivial⟩ ⟨hk, by simp; omega, by rw [if_pos h13] at he; simpa using he⟩ (fun w hw => hw.take 1)
    ·
      refine Wc.seq ?_
      refine Wc.region ?_
      refine Wl.fld ⟨_, 1, none⟩ fl100_1 rfl rfl rfl ?_
      refine Wl.fld ⟨_, 2, none⟩ fl70_1 rfl rfl rfl ?_
      refine Wl.loadb 1 2 t2 rfl rfl rfl rfl ?_
      refine Wl.move rfl rfl ?_
      refine Wl.leq rfl rfl rfl ?_
      refine Wl.assign rfl rfl ?_
      refine Wl.nil ?_
      refine Wx.then_n ?_
      refine Wc.condp rfl (fun h21 => ?_) (fun h21 => ?_)
      ·
        refine Wc.exit ?_
        refine Wx.block_o rfl ?_
        refine Wx.then_e ?_
        refine Wx.block_e ?_
        refine Wx.then_n ?_
        refine Wc.region ?_
        refine Wl.add rfl rfl rfl (by omega) ?_
        refine Wl.move rfl rfl ?_
        refine Wl.nil ?_
        exact Wx.againS ⟨v, k + 1, mk, xs⟩ (by (try dsimp only); omega) ⟨rfl, rfl, rfl, rfl, rfl, trivial⟩ ⟨hk, by (try dsimp only); omega, by rw [if_neg h13, if_pos h21] at he; exact he⟩ (fun w hw => hw.take 1)
      ·
        refine Wc.skip ?_
        refine Wx.block_n ?_
        refine Wx.then_n ?_
        refine Wc.region ?_
        refine Wl.move rfl rfl ?_
        refine Wl.loadbw 1 t100 rfl rfl rfl rfl ?_
        refine Wl.slice1 Tryz.underlying22 t100 rfl rfl rfl rfl rfl rfl (fun b29 => ?_)
        refine Wl.app1e 0 2 (l[k]) Tryz.underlying22 t100 rfl rfl rfl rfl rfl rfl rfl rfl rfl rfl rfl (by omega) (fun v30 => ?_)
        refine Wl.assign rfl rfl ?_
        refine Wl.nil ?_
        refine Wx.block_n ?_
        refine Wx.then_n ?_
        refine Wc.region ?_
        refine Wl.add rfl rfl rfl (by omega) ?_
        refine Wl.move rfl rfl ?_
        refine Wl.nil ?_
        exact Wx.againS ⟨v30, k + 1, mk, xs ++ [l[k]]⟩ (by (try dsimp only); omega) ⟨rfl, rfl, rfl, rfl, rfl, trivial⟩ ⟨hk, by simp; omega, by rw [if_neg h13, if_neg h21] at he; simpa using he⟩ (fun w hw => hw.take 1)
  ·
    refine Wc.exit ?_
    refine Wx.then_e ?_
    refine Wx.then_e ?_
    refine Wx.block_e ?_
    refine Wx.then_n ?_
    refine Wc.seq ?_
    refine Wc.region ?_
    refine Wl.move rfl rfl ?_
    refine Wl.assign rfl rfl ?_
    refine Wl.nil ?_
    refine Wx.then_n ?_
    refine Wc.ret ?_
    obtain rfl : k = l.length := by omega
    obtain rfl : xs = late l := by simpa [lateGo] using he
    exact Wx.retR rfl rfl (fun w hw => hw)

theorem late14_calls (m : Nat → Prop) (A : Option Addr) (c : Nat) (l : List Item) (w : World) (hr : Ro m w (fun w => kItem.Row w A l)) (hc : l.length ≤ c) (hl : l.length * 40 ≤ 140737488351232) :
    Calls Tryz.prog 127 #[.slice A l.length c] w (PostR m w kItem (late l)) := by
  refine calls_of_Wc (args := [.slice A l.length c]) 39 Tryz.func127 rfl rfl (by simp) ?_
  refine Wc.start hr ?_
  refine Wc.seq ?_
  refine Wc.region ?_
  refine Wl.assign rfl rfl ?_
  refine Wl.nil ?_
  refine Wx.then_n ?_
  refine Wc.seq ?_
  refine Wc.region ?_
  refine Wl.assign rfl rfl ?_
  refine Wl.nil ?_
  refine Wx.then_n ?_
  refine Wc.seq ?_
  refine Wc.region ?_
  refine Wl.assign rfl rfl ?_
  refine Wl.nil ?_
  refine Wx.then_n ?_
  refine Wc.seq ?_
  refine Wc.seq ?_
  refine Wc.region ?_
  refine Wl.assign rfl rfl ?_
  refine Wl.nil ?_
  refine Wx.then_n ?_
  refine Wc.block ?_
  refine Wc.loopS (G := Value × Nat × Int × List Item) (fun g => match g with | ⟨v, k, mk, xs⟩ => [(0, .slice A l.length c), (3, .int .i64 mk), (4, v), (5, .int .i64 k)]) (fun g => match g with | ⟨v, k, mk, xs⟩ => k ≤ l.length ∧ xs.length ≤ k ∧ xs ++ lateGo mk (l.drop k) = late l) (fun g => match g with | ⟨v, k, mk, xs⟩ => [rowOf eItem v 100 5 xs]) (fun g => match g with | ⟨v, k, mk, xs⟩ => fun w => kItem.Row w A l) (fun g => match g with | ⟨v, k, mk, xs⟩ => l.length - k) ⟨.slice none 0 0, 0, -9223372036854775808, []⟩ ⟨rfl, rfl, rfl, rfl, trivial⟩ ⟨Nat.zero_le _, Nat.zero_le _, rfl⟩ (fun w hw => hw.nil 100 5) ?_
  rintro ⟨v, k, mk, xs⟩ ⟨hk0, hx, he⟩
  dsimp only
  refine Wc.seq ?_
  refine Wc.seq ?_
  refine Wc.region ?_
  refine Wl.move rfl rfl ?_
  refine Wl.move rfl rfl ?_
  refine Wl.len Tryz.underlying22 rfl rfl ?_
  refine Wl.lss rfl rfl rfl ?_
  refine Wl.nil ?_
  refine Wx.then_n ?_
  refine Wc.condp rfl (fun h10 => ?_) (fun h10 => ?_)
  ·
    have hk : k < l.length := by omega
    refine Wc.pure (p := ∃ ad, A = some ad) (fun w hw => hw.addr (fun w h => h) (by omega)) ?_
    rintro ⟨ad, rfl⟩
    rw [late_drop l k hk] at he
    refine Wc.skip ?_
    refine Wx.then_n ?_
    refine Wc.seq ?_
    refine Wc.block ?_
    refine Wc.seq ?_
    refine Wc.region ?_
    refine Wl.move rfl rfl ?_
    refine Wl.move rfl rfl ?_
    refine Wl.idx Tryz.underlying22 t100 rfl rfl rfl hk ?_
    refine Wl.loadrw (cs := eItem l[k]) t100 (fun w h => h.cells k hk) rfl rfl rfl ?_
    refine Wl.alloc t100 rfl rfl (fun b6 => ?_)
    refine Wl.storew 1 t100 rfl rfl rfl rfl rfl rfl rfl ?_
    refine Wl.nil ?_
    refine Wx.then_n ?_
    refine Wc.seq ?_
    refine Wc.seq ?_
    refine Wc.region ?_
    refine Wl.fld ⟨_, 0, none⟩ fl100_0 rfl rfl rfl ?_
    refine Wl.loadb 1 0 t3 rfl rfl rfl rfl ?_
    refine Wl.eql rfl rfl rfl ?_
    refine Wl.nil ?_
    refine Wx.then_n ?_
    refine Wc.condp rfl (fun h19 => ?_) (fun h19 => ?_)
    ·
      refine Wc.region ?_
      refine Wl.move rfl rfl ?_
      refine Wl.fld ⟨_, 4, none⟩ fl100_2 rfl rfl rfl ?_
      refine Wl.loadb 1 4 t2 rfl rfl rfl rfl ?_
      refine Wl.maxi rfl rfl rfl ?_
      refine Wl.assign rfl rfl ?_
      refine Wl.nil ?_
      refine Wx.then_n ?_
      refine Wc.seq ?_
      refine Wc.region ?_
      refine Wl.fld ⟨_, 0, none⟩ fl100_0 rfl rfl rfl ?_
      refine Wl.loadb 1 0 t3 rfl rfl rfl rfl ?_
      refine Wl.eql rfl rfl rfl ?_
      refine Wl.move rfl rfl ?_
      refine Wl.splitp 27 rfl (fun h27 => ?_) (fun h27 => ?_)
      ·
        refine Wl.skip rfl rfl ?_
        refine Wl.skip rfl rfl ?_
        refine Wl.skip rfl rfl ?_
        refine Wl.skip rfl rfl ?_
        refine Wl.skip rfl rfl ?_
        refine Wl.pick_t rfl rfl rfl ?_
        refine Wl.nil ?_
        refine Wx.then_n ?_
        refine Wc.cond_t rfl ?_
        refine Wc.region ?_
        refine Wl.move rfl rfl ?_
        refine Wl.loadbw 1 t100 rfl rfl rfl rfl ?_
        refine Wl.slice1 Tryz.underlying22 t100 rfl rfl rfl rfl rfl rfl (fun b36 => ?_)
        refine Wl.app1e 0 2 (l[k]) Tryz.underlying22 t100 rfl rfl rfl rfl rfl rfl rfl rfl rfl rfl rfl (by omega) (fun v37 => ?_)
        refine Wl.assign rfl rfl ?_
        refine Wl.nil ?_
        refine Wx.block_n ?_
        refine Wx.then_n ?_
        refine Wc.region ?_
        refine Wl.move rfl rfl ?_
        refine Wl.add rfl rfl rfl (by omega) ?_
        refine Wl.assign rfl rfl ?_
        refine Wl.nil ?_
        exact Wx.againS ⟨v37, k + 1, max mk l[k].mark, xs ++ [l[k]]⟩ (by (try dsimp only); omega) ⟨rfl, rfl, rfl, rfl, trivial⟩ ⟨hk, by (try dsimp only); simp; omega, by rw [if_pos h19] at he; simpa using he⟩ (fun w hw => hw.take 1)
      ·
        refine Wl.fld ⟨_, 1, none⟩ fl100_1 rfl rfl rfl ?_
        refine Wl.fld ⟨_, 2, none⟩ fl70_1 rfl rfl rfl ?_
        refine Wl.loadb 1 2 t2 rfl rfl rfl rfl ?_
        refine Wl.move rfl rfl ?_
        refine Wl.gtr rfl rfl rfl ?_
        refine Wl.pick_f rfl rfl rfl ?_
        refine Wl.nil ?_
        refine Wx.then_n ?_
        refine Wc.condp rfl (fun h33 => ?_) (fun h33 => ?_)
        ·
          refine Wc.region ?_
          refine Wl.move rfl rfl ?_
          refine Wl.loadbw 1 t100 rfl rfl rfl rfl ?_
          refine Wl.slice1 Tryz.underlying22 t100 rfl rfl rfl rfl rfl rfl (fun b36 => ?_)
          refine Wl.app1e 0 2 (l[k]) Tryz.underlying22 t100 rfl rfl rfl rfl rfl rfl rfl rfl rfl rfl rfl (by omega) (fun v37 => ?_)
          refine Wl.assign rfl rfl ?_
          refine Wl.nil ?_
          refine Wx.block_n ?_
          refine Wx.then_n ?_
          refine Wc.region ?_
          refine Wl.move rfl rfl ?_
          refine Wl.add rfl rfl rfl (by omega) ?_
          refine Wl.assign rfl rfl ?_
          refine Wl.nil ?_
          exact absurd h19 h27
        ·
          refine Wc.skip ?_
          refine Wx.block_n ?_
          refine Wx.then_n ?_
          refine Wc.region ?_
          refine Wl.move rfl rfl ?_
          refine Wl.add rfl rfl rfl (by omega) ?_
          refine Wl.assign rfl rfl ?_
          refine Wl.nil ?_
          exact absurd h19 h27
    ·
      refine Wc.skip ?_
      refine Wx.then_n ?_
      refine Wc.seq ?_
      refine Wc.region ?_
      refine Wl.fld ⟨_, 0, none⟩ fl100_0 rfl rfl rfl ?_
      refine Wl.loadb 1 0 t3 rfl rfl rfl rfl ?_
      refine Wl.eql rfl rfl rfl ?_
      refine Wl.move rfl rfl ?_
      refine Wl.splitp 27 rfl (fun h27 => ?_) (fun h27 => ?_)
      ·
        refine Wl.skip rfl rfl ?_
        refine Wl.skip rfl rfl ?_
        refine Wl.skip rfl rfl ?_
        refine Wl.skip rfl rfl ?_
        refine Wl.skip rfl rfl ?_
        refine Wl.pick_t rfl rfl rfl ?_
        refine Wl.nil ?_
        refine Wx.then_n ?_
        refine Wc.cond_t rfl ?_
        refine Wc.region ?_
        refine Wl.move rfl rfl ?_
        refine Wl.loadbw 1 t100 rfl rfl rfl rfl ?_
        refine Wl.slice1 Tryz.underlying22 t100 rfl rfl rfl rfl rfl rfl (fun b36 => ?_)
        refine Wl.app1e 0 2 (l[k]) Tryz.underlying22 t100 rfl rfl rfl rfl rfl rfl rfl rfl rfl rfl rfl (by omega) (fun v37 => ?_)
        refine Wl.assign rfl rfl ?_
        refine Wl.nil ?_
        refine Wx.block_n ?_
        refine Wx.then_n ?_
        refine Wc.region ?_
        refine Wl.move rfl rfl ?_
        refine Wl.add rfl rfl rfl (by omega) ?_
        refine Wl.assign rfl rfl ?_
        refine Wl.nil ?_
        exact absurd h27 h19
      ·
        refine Wl.fld ⟨_, 1, none⟩ fl100_1 rfl rfl rfl ?_
        refine Wl.fld ⟨_, 2, none⟩ fl70_1 rfl rfl rfl ?_
        refine Wl.loadb 1 2 t2 rfl rfl rfl rfl ?_
        refine Wl.move rfl rfl ?_
        refine Wl.gtr rfl rfl rfl ?_
        refine Wl.pick_f rfl rfl rfl ?_
        refine Wl.nil ?_
        refine Wx.then_n ?_
        refine Wc.condp rfl (fun h33 => ?_) (fun h33 => ?_)
        ·
          refine Wc.region ?_
          refine Wl.move rfl rfl ?_
          refine Wl.loadbw 1 t100 rfl rfl rfl rfl ?_
          refine Wl.slice1 Tryz.underlying22 t100 rfl rfl rfl rfl rfl rfl (fun b36 => ?_)
          refine Wl.app1e 0 2 (l[k]) Tryz.underlying22 t100 rfl rfl rfl rfl rfl rfl rfl rfl rfl rfl rfl (by omega) (fun v37 => ?_)
          refine Wl.assign rfl rfl ?_
          refine Wl.nil ?_
          refine Wx.block_n ?_
          refine Wx.then_n ?_
          refine Wc.region ?_
          refine Wl.move rfl rfl ?_
          refine Wl.add rfl rfl rfl (by omega) ?_
          refine Wl.assign rfl rfl ?_
          refine Wl.nil ?_
          exact Wx.againS ⟨v37, k + 1, mk, xs ++ [l[k]]⟩ (by (try dsimp only); omega) ⟨rfl, rfl, rfl, rfl, trivial⟩ ⟨hk, by (try dsimp only); simp; omega, by rw [if_neg h19, if_neg (by omega)] at he; simpa using he⟩ (fun w hw => hw.take 1)
        ·
          refine Wc.skip ?_
          refine Wx.block_n ?_
          refine Wx.then_n ?_
          refine Wc.region ?_
          refine Wl.move rfl rfl ?_
          refine Wl.add rfl rfl rfl (by omega) ?_
          refine Wl.assign rfl rfl ?_
          refine Wl.nil ?_
          exact Wx.againS ⟨v, k + 1, mk, xs⟩ (by (try dsimp only); omega) ⟨rfl, rfl, rfl, rfl, trivial⟩ ⟨hk, by (try dsimp only); omega, by rw [if_neg h19, if_pos (by omega)] at he; exact he⟩ (fun w hw => hw.take 1)
  ·
    refine Wc.exit ?_
    refine Wx.then_e ?_
    refine Wx.then_e ?_
    refine Wx.block_e ?_
    refine Wx.then_n ?_
    refine Wc.seq ?_
    refine Wc.region ?_
    refine Wl.move rfl rfl ?_
    refine Wl.assign rfl rfl ?_
    refine Wl.nil ?_
    refine Wx.then_n ?_
    refine Wc.ret ?_
    obtain rfl : k = l.length := by omega
    obtain rfl : xs = late l := by simpa [lateGo] using he
    exact Wx.retR rfl rfl (fun w hw => hw)

end Go.Proofs.YtkffjbijamfnoaaGreat
