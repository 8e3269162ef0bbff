/-
  The reference's bags.
-/
import Derived.Test.YtkffjbijamfnoaaGreatCuts
set_option linter.unusedVariables false
set_option linter.unusedSimpArgs false
namespace Go.Proofs.YtkffjbijamfnoaaGreat
open Go.RowKit

def mrg (lt : Rec → Rec → Bool) : List Rec → List Rec → List Rec
  | [], ys => ys
  | x :: xs, [] => x :: xs
  | x :: xs, y :: ys => if lt y x then y :: mrg lt (x :: xs) ys else x :: mrg lt xs (y :: ys)
termination_by xs ys => xs.length + ys.length
theorem mrg_cons (lt : Rec → Rec → Bool) (x y : Rec) (xs ys : List Rec) : mrg lt (x :: xs) (y :: ys) = if lt y x then y :: mrg lt (x :: xs) ys else x :: mrg lt xs (y :: ys) := by rw [mrg]
theorem mrg_end (lt : Rec → Rec → Bool) (xs ys : List Rec) (h : xs = [] ∨ ys = []) : mrg lt xs ys = xs ++ ys := by
  rcases h with rfl | rfl
  · rw [mrg]; rfl
  · cases xs with
    | nil => rw [mrg]; rfl
    | cons x xs => rw [mrg, List.append_nil]
theorem mrg_perm (lt : Rec → Rec → Bool) : ∀ (xs ys : List Rec), (mrg lt xs ys).Perm (xs ++ ys)
  | [], ys => by rw [mrg]; exact List.Perm.refl _
  | x :: xs, [] => by rw [mrg, List.append_nil]
  | x :: xs, y :: ys => by
    rw [mrg_cons]
    split
    · exact (List.Perm.cons y (mrg_perm lt (x :: xs) ys)).trans List.perm_middle.symm
    · exact List.Perm.cons x (mrg_perm lt xs (y :: ys))
termination_by xs ys => xs.length + ys.length
theorem mrg_srt {lt : Rec → Rec → Bool} (h : TO lt) : ∀ (xs ys : List Rec), Srt lt xs → Srt lt ys → Srt lt (mrg lt xs ys)
  | [], ys, _, hy => by rw [mrg]; exact hy
  | x :: xs, [], hx, _ => by rw [mrg]; exact hx
  | x :: xs, y :: ys, hx, hy => by
    obtain ⟨hx1, hx2⟩ := List.pairwise_cons.1 hx
    obtain ⟨hy1, hy2⟩ := List.pairwise_cons.1 hy
    rw [mrg_cons]
    split
    · rename_i hlt
      refine List.pairwise_cons.2 ⟨fun z hz => ?_, mrg_srt h (x :: xs) ys hx hy2⟩
      rcases List.mem_append.1 ((mrg_perm lt _ _).mem_iff.1 hz) with hz | hz
      · rcases List.mem_cons.1 hz with rfl | hz
        · exact h.asym hlt
        · exact h.leT (h.asym hlt) (hx1 z hz)
      · exact hy1 z hz
    · rename_i hlt
      have hlt' : lt y x = false := by simpa using hlt
      refine List.pairwise_cons.2 ⟨fun z hz => ?_, mrg_srt h xs (y :: ys) hx2 hy⟩
      rcases List.mem_append.1 ((mrg_perm lt _ _).mem_iff.1 hz) with hz | hz
      · exact hx1 z hz
      · rcases List.mem_cons.1 hz with rfl | hz
        · exact hlt'
        · exact h.leT hlt' (hy1 z hz)
termination_by xs ys => xs.length + ys.length
theorem mrg_sort (l : List Rec) (k : Nat) : mrg lessR (sortR (l.take k)) (sortR (l.drop k)) = sortR l := by
  refine isort_eq lessR_to ?_ (mrg_srt lessR_to _ _ (isort_srt lessR_to _) (isort_srt lessR_to _))
  refine (mrg_perm _ _ _).trans (((isort_perm _).append (isort_perm _)).trans ?_)
  rw [List.take_append_drop]
theorem sortR_len (l : List Rec) : (sortR l).length = l.length := isort_length l
theorem sortR_short {l : List Rec} (h : l.length < 2) : sortR l = [] ++ l := by
  match l, h with
  | [], _ => rfl
  | [x], _ => rfl
/-- Is it there, one by one? -/
def subl : List Rec → List Rec → Bool
  | [], _ => true
  | _ :: _, [] => false
  | a :: s, b :: bs => if a = b then subl s bs else subl (a :: s) bs
theorem subl_iff : ∀ (bs s : List Rec), Srt lessR s → Srt lessR bs → (subl s bs = true ↔ ∀ x, s.count x ≤ bs.count x)
  | bs, [], _, _ => by simp [subl]
  | [], a :: s, _, _ => by
    simp only [subl, Bool.false_eq_true, false_iff]
    intro h
    have := h a
    simp at this
  | b :: bs, a :: s, ha, hb => by
    obtain ⟨ha1, ha2⟩ := List.pairwise_cons.1 ha
    obtain ⟨hb1, hb2⟩ := List.pairwise_cons.1 hb
    rw [subl]
    by_cases e : a = b
    · subst e
      rw [if_pos rfl, subl_iff bs s ha2 hb2]
      constructor
      · intro h x; have := h x; rw [List.count_cons, List.count_cons]; omega
      · intro h x; have := h x; rw [List.count_cons, List.count_cons] at this; omega
    · rw [if_neg e, subl_iff bs (a :: s) ha hb2]
      constructor
      · intro h x; have := h x; rw [List.count_cons (a := x) (b := b)]; omega
      · intro h x
        by_cases ex : b = x
        · subst ex
          have hz : (a :: s).count b = 0 := by
            refine List.count_eq_zero.2 (fun hm => ?_)
            rcases List.mem_cons.1 hm with hm | hm
            · exact e hm.symm
            · have h1 := ha1 b hm
              have h2 := h a
              rw [List.count_cons_self, List.count_cons_of_ne (fun e' => e e'.symm)] at h2
              have h3 : a ∈ bs := List.count_pos_iff.1 (by omega)
              exact e (lessR_to.tri _ _ (hb1 a h3) h1)
          omega
        · have := h x
          rw [List.count_cons_of_ne (fun e' => ex e')] at this
          exact this
theorem subl_sorted (a b : List Rec) : subl (sortR a) (sortR b) = within a b := by
  have h1 := subl_iff (sortR b) (sortR a) (isort_srt lessR_to a) (isort_srt lessR_to b)
  have h2 := within_iff a b
  have h3 : (∀ x, (sortR a).count x ≤ (sortR b).count x) ↔ ∀ x, a.count x ≤ b.count x := by
    refine forall_congr' (fun x => ?_)
    rw [(isort_perm a).count_eq, (isort_perm b).count_eq]
  rw [h3, ← h2] at h1
  cases hs : subl (sortR a) (sortR b) <;> cases hw : within a b <;> simp_all
theorem subl_drop (a b : List Rec) (i k : Nat) (hi : i < a.length) (hk : k < b.length) : subl (a.drop i) (b.drop k) = if a[i] = b[k] then subl (a.drop (i + 1)) (b.drop (k + 1)) else subl (a.drop i) (b.drop (k + 1)) := by
  rw [List.drop_eq_getElem_cons hi, List.drop_eq_getElem_cons hk, subl]
theorem subl_end (a b : List Rec) (i k : Nat) (hi : i ≤ a.length) (h : ¬ (k < b.length ∧ i < a.length)) : subl (a.drop i) (b.drop k) = decide ((i : Int) = a.length) := by
  by_cases e : i = a.length
  · subst e
    rw [List.drop_length, decide_eq_true rfl]; cases b.drop k <;> simp [subl]
  · rw [decide_eq_false (by omega), List.drop_eq_getElem_cons (show i < a.length by omega), show b.drop k = [] from List.drop_of_length_le (by omega)]; simp [subl]

theorem sort14_calls : ∀ (N : Nat) (m : Nat → Prop) (A : Option Addr) (c : Nat) (l : List Rec) (w : World) (hr : Ro m w (fun w => kRec.Row w A l)) (hc : l.length ≤ c) (hl : l.length ≤ 4294967296) (hN : l.length + 1 ≤ N),
    Calls Tryz.prog 48 #[.slice A l.length c] w (PostO m w eRec 70 3 (sortR l)) := by
  intro N
  induction N with
  | zero => intro m A c l w hr hc hl hN; exact absurd hN (by omega)
  | succ N ih =>
    intro m A c l w hr hc hl hN
    refine calls_of_Wc (args := [.slice A l.length c]) 59 Tryz.func48 rfl rfl (by simp) ?_
    refine Wc.start hr ?_
    refine Wc.seq ?_
    refine Wc.region ?_
    refine Wl.assign rfl rfl ?_
    refine Wl.nil ?_
    refine Wx.then_n ?_
    refine Wc.seq ?_
    refine Wc.seq ?_
    refine Wc.region ?_
    refine Wl.move rfl rfl ?_
    refine Wl.len Tryz.underlying59 rfl rfl ?_
    refine Wl.lss rfl rfl rfl ?_
    refine Wl.nil ?_
    refine Wx.then_n ?_
    refine Wc.condp rfl (fun h8 => ?_) (fun h8 => ?_)
    ·
      refine Wc.seq ?_
      refine Wc.region ?_
      refine Wl.move rfl rfl ?_
      refine Wl.heap (fun w hw => hw.nil 70 3) ?_
      refine Wl.appR (enc := eRec) (xs := []) (ys := l) 0 Tryz.underlying59 t70 (fun w h => h) rfl rfl rfl rfl rfl rfl (by simp; omega) (fun v10 => ?_)
      refine Wl.assign rfl rfl ?_
      refine Wl.nil ?_
      refine Wx.then_n ?_
      refine Wc.ret ?_
      refine Wx.then_r ?_
      rw [sortR_short (by omega)]
      exact Wx.retO rfl rfl (fun w hw => hw)
    ·
      refine Wc.skip ?_
      refine Wx.then_n ?_
      refine Wc.seq ?_
      have hdiv : IntKind.i64.wrap ((l.length : Int).tdiv 2) = ((l.length / 2 : Nat) : Int) := by rw [Int.tdiv_eq_ediv_of_nonneg (by omega), i64_wrap_in (by omega)]; omega
      refine Wany.startH mixed (fun w hw => hw.drew) ?_
      refine Wany.take (f := 4) [0, 1, 2, 3, 4, 6, 7, 8, 9, 10] (fun w hw => hw) (by kernel_rfl) ?_
      refine Wl.move rfl rfl ?_
      refine Wl.move rfl rfl ?_
      refine Wl.len Tryz.underlying59 rfl rfl ?_
      refine Wl.quo rfl rfl rfl (by omega) ?_
      refine Wl.resl 0 (l.length / 2) Tryz.underlying59 t70 rfl rfl (congrArg (fun z => some (Value.int .i64 z)) hdiv) (Nat.zero_le _) (by omega) rfl ?_
      rw [show l.length / 2 - 0 = (l.take (l.length / 2)).length by rw [List.length_take]; omega]
      refine Wl.move rfl rfl ?_
      refine Wl.move rfl rfl ?_
      refine Wl.len Tryz.underlying59 rfl rfl ?_
      refine Wl.quo rfl rfl rfl (by omega) ?_
      refine Wl.resl (l.length / 2) l.length Tryz.underlying59 t70 rfl (congrArg (fun z => some (Value.int .i64 z)) hdiv) rfl (by omega) (by omega) rfl ?_
      rw [show l.length - l.length / 2 = (l.drop (l.length / 2)).length by rw [List.length_drop]]
      refine Wl.nilh ?_
      refine Wany.eff (f := 3) 5 rfl (by kernel_rfl) ?_
      refine Wl.callO [.slice (sliceAddr A 0 c 3) (l.take (l.length / 2)).length (c - 0)] Tryz.func48 rfl rfl rfl rfl (fun w hw => ih _ (sliceAddr A 0 c 3) (c - 0) (l.take (l.length / 2)) w (hw.read fun w h => by have := Kn.Row.part (dk := kRec) h 0 (l.length / 2) (by omega) (by omega) hc; rw [List.drop_zero] at this; exact this) (by rw [List.length_take]; omega) (by rw [List.length_take]; omega) (by rw [List.length_take]; omega)) (fun v16 => ?_)
      refine Wl.nile (fun w hw => hw.take 0) ?_
      refine Wany.eff (f := 2) 11 rfl (by kernel_rfl) ?_
      refine Wl.callO [.slice (sliceAddr A (l.length / 2) c 3) (l.drop (l.length / 2)).length (c - l.length / 2)] Tryz.func48 rfl rfl rfl rfl (fun w hw => ih _ (sliceAddr A (l.length / 2) c 3) (c - l.length / 2) (l.drop (l.length / 2)) w (hw.read fun w h => by have := Kn.Row.part (dk := kRec) h (l.length / 2) l.length (by omega) (by omega) hc; rw [List.take_length] at this; exact this) (by rw [List.length_drop]; omega) (by rw [List.length_drop]; omega) (by rw [List.length_drop]; omega)) (fun v22 => ?_)
      refine Wl.nile (fun w hw => hw.take 0) ?_
      refine Wany.take (f := 0) [12, 13] (fun w hw => hw.take 0) (by kernel_rfl) ?_
      refine Wl.assign rfl rfl ?_
      refine Wl.assign rfl rfl ?_
      refine Wl.nilh ?_
      refine Wany.done (by kernel_rfl) ?_
      refine Wx.then_n ?_
      refine Wc.seq ?_
      refine Wc.form 0 rfl (fun A16 c16 e16 hc16 _ => ?_)
      subst e16
      refine Wc.form 1 rfl (fun A22 c22 e22 hc22 _ => ?_)
      subst e22
      refine Wc.freeze 0 rfl ?_
      refine Wc.freeze 0 rfl ?_
      have hms := mrg_sort l (l.length / 2)
      have hl1 := sortR_len (l.take (l.length / 2))
      have hl2 := sortR_len (l.drop (l.length / 2))
      rw [List.length_take] at hl1
      rw [List.length_drop] at hl2
      refine Wc.region ?_
      refine Wl.assign rfl rfl ?_
      refine Wl.nil ?_
      refine Wx.then_n ?_
      refine Wc.seq ?_
      refine Wc.block ?_
      refine Wc.loopS (G := Value × List Rec × (Option Addr × Nat) × List Rec × (Option Addr × Nat) × List Rec) (fun g => match g with | ⟨v, out, ⟨A, ca⟩, xs, ⟨B, cb⟩, ys⟩ => [(3, .slice A xs.length ca), (4, .slice B ys.length cb), (5, v)]) (fun g => match g with | ⟨v, out, ⟨A, ca⟩, xs, ⟨B, cb⟩, ys⟩ => xs.length ≤ ca ∧ ys.length ≤ cb ∧ out ++ mrg lessR xs ys = sortR l ∧ out.length + xs.length + ys.length = l.length) (fun g => match g with | ⟨v, out, ⟨A, ca⟩, xs, ⟨B, cb⟩, ys⟩ => [rowOf eRec v 70 3 out]) (fun g => match g with | ⟨v, out, ⟨A, ca⟩, xs, ⟨B, cb⟩, ys⟩ => fun w => kRec.Row w A xs ∧ kRec.Row w B ys) (fun g => match g with | ⟨v, out, ⟨A, ca⟩, xs, ⟨B, cb⟩, ys⟩ => xs.length + ys.length) ⟨.slice none 0 0, [], (A16, c16), (sortR (l.take (l.length / 2))), (A22, c22), (sortR (l.drop (l.length / 2)))⟩ ⟨rfl, rfl, rfl, trivial⟩ ⟨hc16, hc22, hms, by (try dsimp only); rw [hl1, hl2, List.length_nil]; omega⟩ (fun w hw => (hw.nil 70 3).imp (fun w h => ⟨row_holds h.1.2, row_holds h.2⟩)) ?_
      rintro ⟨v, out, ⟨A, ca⟩, xs, ⟨B, cb⟩, ys⟩ ⟨hca, hcb, hm, hln⟩
      dsimp only
      refine Wc.seq ?_
      refine Wc.seq ?_
      refine Wc.region ?_
      refine Wl.move rfl rfl ?_
      refine Wl.len Tryz.underlying59 rfl rfl ?_
      refine Wl.gtr rfl rfl rfl ?_
      refine Wl.move rfl rfl ?_
      refine Wl.splitp 26 rfl (fun h26 => ?_) (fun h26 => ?_)
      ·
        refine Wl.move rfl rfl ?_
        refine Wl.len Tryz.underlying59 rfl rfl ?_
        refine Wl.gtr rfl rfl rfl ?_
        refine Wl.pick_t rfl rfl rfl ?_
        refine Wl.nil ?_
        refine Wx.then_n ?_
        refine Wc.condp rfl (fun h30 => ?_) (fun h30 => ?_)
        ·
          obtain ⟨x, xs, rfl⟩ := List.exists_cons_of_length_pos (show 0 < xs.length by omega)
          obtain ⟨y, ys, rfl⟩ := List.exists_cons_of_length_pos (show 0 < ys.length by omega)
          refine Wc.pure (p := ∃ ad, A = some ad) (fun w hw => hw.addr (fun w h => h.1) (by simp)) ?_
          rintro ⟨ad, rfl⟩
          refine Wc.pure (p := ∃ ad, B = some ad) (fun w hw => hw.addr (fun w h => h.2) (by simp)) ?_
          rintro ⟨bd, rfl⟩
          rw [mrg_cons] at hm
          have hl1' : (x :: xs).length = xs.length + 1 := rfl
          have hl2' : (y :: ys).length = ys.length + 1 := rfl
          refine Wc.skip ?_
          refine Wx.then_n ?_
          refine Wc.block ?_
          refine Wc.seq ?_
          refine Wany.startH mixed (fun w hw => hw.drew) ?_
          refine Wany.take (f := 1) [0, 1, 2, 3, 4, 5] (fun w hw => hw) (by kernel_rfl) ?_
          refine Wl.move rfl rfl ?_
          refine Wl.idx (j := 0) Tryz.underlying59 t70 rfl rfl rfl (by simp) ?_
          refine Wl.loadrw (cs := (eRec y)) t70 (fun w h => h.2.cells 0 (by simp)) rfl rfl rfl ?_
          refine Wl.move rfl rfl ?_
          refine Wl.idx (j := 0) Tryz.underlying59 t70 rfl rfl rfl (by simp) ?_
          refine Wl.loadrw (cs := (eRec x)) t70 (fun w h => h.1.cells 0 (by simp)) rfl rfl rfl ?_
          refine Wl.nilh ?_
          refine Wany.eff (f := 0) 6 rfl (by kernel_rfl) ?_
          refine Wl.callV [.agg (eRec y).toArray, .agg (eRec x).toArray] Tryz.func101 rfl rfl rfl rfl (fun w hw => less14_calls _ y x w (hw.read fun _ _ => trivial)) ?_
          refine Wl.nile (fun w hw => hw) ?_
          refine Wany.done (by kernel_rfl) ?_
          refine Wx.then_n ?_
          refine Wc.cond rfl (fun h37 => ?_) (fun h37 => ?_)
          ·
            refine Wany.start (St w (fun _ => False) m [] (fun w => kRec.Row w (some ad) (x :: xs) ∧ kRec.Row w (some bd) (y :: ys))) mixed (fun w hw => hw.drew) ?_
            refine Wany.take (f := 4) [0, 1, 2, 3, 6, 7] (fun w hw => hw.take 0) (by kernel_rfl) ?_
            refine Wl.move rfl rfl ?_
            refine Wl.move rfl rfl ?_
            refine Wl.idx (j := 0) Tryz.underlying59 t70 rfl rfl rfl (by simp) ?_
            refine Wl.loadrw (cs := (eRec y)) t70 (fun w h => h.2.cells 0 (by simp)) rfl rfl rfl ?_
            refine Wl.move rfl rfl ?_
            refine Wl.resl 1 (y :: ys).length Tryz.underlying59 t70 rfl rfl rfl (by simp) hcb rfl ?_
            refine Wl.nilh ?_
            refine Wany.eff (f := 3) 4 rfl (by kernel_rfl) ?_
            refine Wl.slice1 Tryz.underlying59 t70 rfl rfl rfl rfl rfl rfl (fun b42 => ?_)
            refine Wl.nile (fun w hw => hw.take 0) ?_
            refine Wany.eff (f := 2) 5 rfl (by kernel_rfl) ?_
            refine Wl.app1e 0 1 (y) Tryz.underlying59 t70 rfl rfl rfl rfl rfl rfl rfl rfl rfl rfl rfl (by omega) (fun v43 => ?_)
            refine Wl.nile (fun w hw => hw.take 0) ?_
            refine Wany.take (f := 0) [8, 9] (fun w hw => hw.take 0) (by kernel_rfl) ?_
            refine Wl.assign rfl rfl ?_
            refine Wl.assign rfl rfl ?_
            refine Wl.nilh ?_
            refine Wany.done (by kernel_rfl) ?_
            refine Wx.block_n ?_
            rw [if_pos h37] at hm
            exact Wx.againS (⟨v43, out ++ [y], (some ad, ca), x :: xs, (sliceAddr (some bd) 1 cb 3, cb - 1), ys⟩ : Value × List Rec × (Option Addr × Nat) × List Rec × (Option Addr × Nat) × List Rec) (by (try dsimp only); simp only [List.length_cons]; omega) ⟨rfl, rfl, rfl, trivial⟩ ⟨hca, by (try dsimp only); omega, by (try dsimp only); rw [List.append_assoc]; exact hm, by (try dsimp only); rw [List.length_append, List.length_singleton]; omega⟩ (fun w hw => (hw.take 1).imp fun w h => ⟨h.1, by have := Kn.Row.part (dk := kRec) h.2 1 (y :: ys).length (by simp) (Nat.le_refl _) hcb; rw [List.take_length] at this; exact this⟩)
          ·
            refine Wany.start (St w (fun _ => False) m [] (fun w => kRec.Row w (some ad) (x :: xs) ∧ kRec.Row w (some bd) (y :: ys))) mixed (fun w hw => hw.drew) ?_
            refine Wany.take (f := 4) [0, 1, 2, 3, 6, 7] (fun w hw => hw.take 0) (by kernel_rfl) ?_
            refine Wl.move rfl rfl ?_
            refine Wl.move rfl rfl ?_
            refine Wl.idx (j := 0) Tryz.underlying59 t70 rfl rfl rfl (by simp) ?_
            refine Wl.loadrw (cs := (eRec x)) t70 (fun w h => h.1.cells 0 (by simp)) rfl rfl rfl ?_
            refine Wl.move rfl rfl ?_
            refine Wl.resl 1 (x :: xs).length Tryz.underlying59 t70 rfl rfl rfl (by simp) hca rfl ?_
            refine Wl.nilh ?_
            refine Wany.eff (f := 3) 4 rfl (by kernel_rfl) ?_
            refine Wl.slice1 Tryz.underlying59 t70 rfl rfl rfl rfl rfl rfl (fun b50 => ?_)
            refine Wl.nile (fun w hw => hw.take 0) ?_
            refine Wany.eff (f := 2) 5 rfl (by kernel_rfl) ?_
            refine Wl.app1e 0 1 (x) Tryz.underlying59 t70 rfl rfl rfl rfl rfl rfl rfl rfl rfl rfl rfl (by omega) (fun v51 => ?_)
            refine Wl.nile (fun w hw => hw.take 0) ?_
            refine Wany.take (f := 0) [8, 9] (fun w hw => hw.take 0) (by kernel_rfl) ?_
            refine Wl.assign rfl rfl ?_
            refine Wl.assign rfl rfl ?_
            refine Wl.nilh ?_
            refine Wany.done (by kernel_rfl) ?_
            refine Wx.block_n ?_
            rw [if_neg (by rw [h37]; simp)] at hm
            exact Wx.againS (⟨v51, out ++ [x], (sliceAddr (some ad) 1 ca 3, ca - 1), xs, (some bd, cb), y :: ys⟩ : Value × List Rec × (Option Addr × Nat) × List Rec × (Option Addr × Nat) × List Rec) (by (try dsimp only); simp only [List.length_cons]; omega) ⟨rfl, rfl, rfl, trivial⟩ ⟨by (try dsimp only); omega, hcb, by (try dsimp only); rw [List.append_assoc]; exact hm, by (try dsimp only); rw [List.length_append, List.length_singleton]; omega⟩ (fun w hw => (hw.take 1).imp fun w h => ⟨by have := Kn.Row.part (dk := kRec) h.1 1 (x :: xs).length (by simp) (Nat.le_refl _) hca; rw [List.take_length] at this; exact this, h.2⟩)
        ·
          refine Wc.exit ?_
          refine Wx.then_e ?_
          refine Wx.then_e ?_
          refine Wx.block_e ?_
          refine Wx.then_n ?_
          refine Wc.seq ?_
          rw [mrg_end _ _ _ (by rcases Nat.eq_zero_or_pos ys.length with h | h; exact .inr (List.eq_nil_of_length_eq_zero h); exact absurd h (by omega)), ← List.append_assoc] at hm
          refine Wc.region ?_
          refine Wl.move rfl rfl ?_
          refine Wl.move rfl rfl ?_
          refine Wl.appR (enc := eRec) (xs := out) (ys := xs) 0 Tryz.underlying59 t70 (fun w h => h.1) rfl rfl rfl rfl rfl rfl (by omega) (fun v56 => ?_)
          refine Wl.move rfl rfl ?_
          refine Wl.appR (enc := eRec) (xs := out ++ xs) (ys := ys) 0 Tryz.underlying59 t70 (fun w h => h.2) rfl rfl rfl rfl rfl rfl (by rw [List.length_append]; omega) (fun v58 => ?_)
          refine Wl.assign rfl rfl ?_
          refine Wl.nil ?_
          refine Wx.then_n ?_
          refine Wc.ret ?_
          rw [← hm]
          exact Wx.retO rfl rfl (fun w hw => hw)
      ·
        refine Wl.skip rfl rfl ?_
        refine Wl.skip rfl rfl ?_
        refine Wl.skip rfl rfl ?_
        refine Wl.pick_f rfl rfl rfl ?_
        refine Wl.nil ?_
        refine Wx.then_n ?_
        refine Wc.cond_f rfl ?_
        refine Wc.exit ?_
        refine Wx.then_e ?_
        refine Wx.then_e ?_
        refine Wx.block_e ?_
        refine Wx.then_n ?_
        refine Wc.seq ?_
        rw [mrg_end _ _ _ (by rcases Nat.eq_zero_or_pos xs.length with h | h; exact .inl (List.eq_nil_of_length_eq_zero h); exact absurd h (by omega)), ← List.append_assoc] at hm
        refine Wc.region ?_
        refine Wl.move rfl rfl ?_
        refine Wl.move rfl rfl ?_
        refine Wl.appR (enc := eRec) (xs := out) (ys := xs) 0 Tryz.underlying59 t70 (fun w h => h.1) rfl rfl rfl rfl rfl rfl (by omega) (fun v56 => ?_)
        refine Wl.move rfl rfl ?_
        refine Wl.appR (enc := eRec) (xs := out ++ xs) (ys := ys) 0 Tryz.underlying59 t70 (fun w h => h.2) rfl rfl rfl rfl rfl rfl (by rw [List.length_append]; omega) (fun v58 => ?_)
        refine Wl.assign rfl rfl ?_
        refine Wl.nil ?_
        refine Wx.then_n ?_
        refine Wc.ret ?_
        rw [← hm]
        exact Wx.retO rfl rfl (fun w hw => hw)

theorem sort14_calls' (m : Nat → Prop) (A : Option Addr) (c : Nat) (l : List Rec) (w : World) (hr : Ro m w (fun w => kRec.Row w A l)) (hc : l.length ≤ c) (hl : l.length ≤ 4294967296) : Calls Tryz.prog 48 #[.slice A l.length c] w (PostO m w eRec 70 3 (sortR l)) := sort14_calls (l.length + 1) m A c l w hr hc hl (Nat.le_refl _)

theorem within14_calls (m : Nat → Prop) (A B : Option Addr) (c d : Nat) (a b : List Rec) (w : World) (hr : Ro m w (fun w => kRec.Row w A a ∧ kRec.Row w B b)) (hc : a.length ≤ c) (hd : b.length ≤ d) (ha : a.length ≤ 4294967296) (hb : b.length ≤ 4294967296) :
    Calls Tryz.prog 49 #[.slice A a.length c, .slice B b.length d] w (PostV m w (.bool (within a b))) := by
  refine calls_of_Wc (args := [.slice A a.length c, .slice B b.length d]) 38 Tryz.func49 rfl rfl (by simp) ?_
  refine Wc.start hr ?_
  refine Wc.seq ?_
  refine Wc.region ?_
  refine Wl.assign rfl rfl ?_
  refine Wl.nil ?_
  refine Wx.then_n ?_
  refine Wc.seq ?_
  refine Wc.region ?_
  refine Wl.move rfl rfl ?_
  refine Wl.callO [_] Tryz.func48 rfl rfl rfl rfl (fun w hw => sort14_calls' _ A c a w (hw.read fun w h => h.1) hc ha) (fun v8 => ?_)
  refine Wl.form 0 rfl (fun A8 c8 e8 hc8 _ => ?_)
  subst e8
  refine Wl.freeze 0 rfl ?_
  refine Wl.move rfl rfl ?_
  refine Wl.callO [_] Tryz.func48 rfl rfl rfl rfl (fun w hw => sort14_calls' _ B d b w (hw.read fun w h => h.1.2) hd hb) (fun v10 => ?_)
  refine Wl.form 0 rfl (fun A10 c10 e10 hc10 _ => ?_)
  subst e10
  refine Wl.freeze 0 rfl ?_
  refine Wl.heap (fun w hw => hw.imp (R' := fun w => kRec.Row w A8 (sortR a) ∧ kRec.Row w A10 (sortR b)) (fun w h => ⟨row_holds h.1.2, row_holds h.2⟩)) ?_
  refine Wl.assign rfl rfl ?_
  refine Wl.assign rfl rfl ?_
  refine Wl.nil ?_
  refine Wx.then_n ?_
  refine Wc.seq ?_
  have hla := sortR_len a
  have hlb := sortR_len b
  refine Wc.region ?_
  refine Wl.assign rfl rfl ?_
  refine Wl.nil ?_
  refine Wx.then_n ?_
  refine Wc.seq ?_
  refine Wc.seq ?_
  refine Wc.region ?_
  refine Wl.assign rfl rfl ?_
  refine Wl.nil ?_
  refine Wx.then_n ?_
  refine Wc.block ?_
  refine Wc.loopS (G := Nat × Nat) (fun g => match g with | ⟨i, k⟩ => [(0, .slice A8 (sortR a).length c8), (1, .slice A10 (sortR b).length c10), (5, .int .i64 i), (6, .int .i64 k)]) (fun g => match g with | ⟨i, k⟩ => i ≤ (sortR a).length ∧ k ≤ (sortR b).length ∧ subl (sortR a) (sortR b) = subl ((sortR a).drop i) ((sortR b).drop k)) (fun g => match g with | ⟨i, k⟩ => []) (fun g => match g with | ⟨i, k⟩ => fun w => kRec.Row w A8 (sortR a) ∧ kRec.Row w A10 (sortR b)) (fun g => match g with | ⟨i, k⟩ => (sortR b).length - k) ⟨0, 0⟩ ⟨rfl, rfl, rfl, rfl, trivial⟩ ⟨Nat.zero_le _, Nat.zero_le _, rfl⟩ (fun w hw => hw) ?_
  rintro ⟨i, k⟩ ⟨hi0, hk0, he⟩
  dsimp only
  refine Wc.seq ?_
  refine Wc.seq ?_
  refine Wc.region ?_
  refine Wl.move rfl rfl ?_
  refine Wl.move rfl rfl ?_
  refine Wl.len Tryz.underlying59 rfl rfl ?_
  refine Wl.lss rfl rfl rfl ?_
  refine Wl.move rfl rfl ?_
  refine Wl.splitp 15 rfl (fun h15 => ?_) (fun h15 => ?_)
  ·
    refine Wl.move rfl rfl ?_
    refine Wl.move rfl rfl ?_
    refine Wl.len Tryz.underlying59 rfl rfl ?_
    refine Wl.lss rfl rfl rfl ?_
    refine Wl.pick_t rfl rfl rfl ?_
    refine Wl.nil ?_
    refine Wx.then_n ?_
    refine Wc.condp rfl (fun h20 => ?_) (fun h20 => ?_)
    ·
      have hi : i < (sortR a).length := by omega
      have hk : k < (sortR b).length := by omega
      rw [subl_drop _ _ i k hi hk] at he
      refine Wc.pure (p := ∃ ad, A8 = some ad) (fun w hw => hw.addr (fun w h => h.1) (by omega)) ?_
      rintro ⟨ad, rfl⟩
      refine Wc.pure (p := ∃ ad, A10 = some ad) (fun w hw => hw.addr (fun w h => h.2) (by omega)) ?_
      rintro ⟨bd, rfl⟩
      refine Wc.skip ?_
      refine Wx.then_n ?_
      refine Wc.seq ?_
      refine Wc.block ?_
      refine Wc.seq ?_
      refine Wany.startH mixed (fun w hw => hw.drew) ?_
      refine Wany.take (f := 1) [0, 1, 2, 3, 4, 5, 6, 7] (fun w hw => hw) (by kernel_rfl) ?_
      refine Wl.move rfl rfl ?_
      refine Wl.move rfl rfl ?_
      refine Wl.idx Tryz.underlying59 t70 rfl rfl rfl hi ?_
      refine Wl.loadrw (cs := eRec (sortR a)[i]) t70 (fun w h => h.1.cells i hi) rfl rfl rfl ?_
      refine Wl.move rfl rfl ?_
      refine Wl.move rfl rfl ?_
      refine Wl.idx Tryz.underlying59 t70 rfl rfl rfl hk ?_
      refine Wl.loadrw (cs := eRec (sortR b)[k]) t70 (fun w h => h.2.cells k hk) rfl rfl rfl ?_
      refine Wl.nilh ?_
      refine Wany.eff (f := 0) 8 rfl (by kernel_rfl) ?_
      refine Wl.eqls (sortR a)[i] (sortR b)[k] eq70 rfl rfl rfl ?_
      refine Wl.nile (fun w hw => hw) ?_
      refine Wany.done (by kernel_rfl) ?_
      refine Wx.then_n ?_
      refine Wc.condp rfl (fun h31 => ?_) (fun h31 => ?_)
      ·
        refine Wc.region ?_
        refine Wl.move rfl rfl ?_
        refine Wl.add rfl rfl rfl (by omega) ?_
        refine Wl.assign rfl rfl ?_
        refine Wl.nil ?_
        refine Wx.block_n ?_
        refine Wx.then_n ?_
        refine Wc.region ?_
        refine Wl.move rfl rfl ?_
        refine Wl.add rfl rfl rfl (by omega) ?_
        refine Wl.assign rfl rfl ?_
        refine Wl.nil ?_
        rw [if_pos h31] at he
        exact Wx.againS ⟨i + 1, k + 1⟩ (by (try dsimp only); omega) ⟨rfl, rfl, rfl, rfl, trivial⟩ ⟨hi, hk, he⟩ (fun w hw => hw)
      ·
        refine Wc.skip ?_
        refine Wx.block_n ?_
        refine Wx.then_n ?_
        refine Wc.region ?_
        refine Wl.move rfl rfl ?_
        refine Wl.add rfl rfl rfl (by omega) ?_
        refine Wl.assign rfl rfl ?_
        refine Wl.nil ?_
        rw [if_neg h31] at he
        exact Wx.againS ⟨i, k + 1⟩ (by (try dsimp only); omega) ⟨rfl, rfl, rfl, rfl, trivial⟩ ⟨hi0, hk, he⟩ (fun w hw => hw)
    ·
      refine Wc.exit ?_
      refine Wx.then_e ?_
      refine Wx.then_e ?_
      refine Wx.block_e ?_
      refine Wx.then_n ?_
      refine Wc.seq ?_
      refine Wc.region ?_
      refine Wl.move rfl rfl ?_
      refine Wl.move rfl rfl ?_
      refine Wl.len Tryz.underlying59 rfl rfl ?_
      refine Wl.eql rfl rfl rfl ?_
      refine Wl.assign rfl rfl ?_
      refine Wl.nil ?_
      refine Wx.then_n ?_
      refine Wc.ret ?_
      rw [subl_end _ _ i k hi0 (by omega), subl_sorted] at he
      exact Wx.retB rfl rfl he.symm
  ·
    refine Wl.skip rfl rfl ?_
    refine Wl.skip rfl rfl ?_
    refine Wl.skip rfl rfl ?_
    refine Wl.skip rfl rfl ?_
    refine Wl.pick_f rfl rfl rfl ?_
    refine Wl.nil ?_
    refine Wx.then_n ?_
    refine Wc.cond_f rfl ?_
    refine Wc.exit ?_
    refine Wx.then_e ?_
    refine Wx.then_e ?_
    refine Wx.block_e ?_
    refine Wx.then_n ?_
    refine Wc.seq ?_
    refine Wc.region ?_
    refine Wl.move rfl rfl ?_
    refine Wl.move rfl rfl ?_
    refine Wl.len Tryz.underlying59 rfl rfl ?_
    refine Wl.eql rfl rfl rfl ?_
    refine Wl.assign rfl rfl ?_
    refine Wl.nil ?_
    refine Wx.then_n ?_
    refine Wc.ret ?_
    rw [subl_end _ _ i k hi0 (by omega), subl_sorted] at he
    exact Wx.retB rfl rfl he.symm

end Go.Proofs.YtkffjbijamfnoaaGreat
