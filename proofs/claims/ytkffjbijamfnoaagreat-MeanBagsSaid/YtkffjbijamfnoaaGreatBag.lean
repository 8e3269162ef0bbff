/-
  Bags of records.
-/
import Derived.Test.YtkffjbijamfnoaaGreatWin
import Derived.Test.YtkffjbijamfnoaaGreatHlMaps
set_option linter.unusedVariables false
set_option linter.unusedSimpArgs false
namespace Go.Proofs.YtkffjbijamfnoaaGreat
open Go.RowKit

theorem chk2 (e : Bool) (d : Nat) (a : Int) (w : World) : (Instr.checkKey e (d + 1) 2 (.int .i64 a)).run Tryz.prog w = .ok () w := by
  unfold Instr.checkKey
  simp [run_underlying Tryz.underlying2]
theorem sameBits_int (d : Nat) (k : IntKind) (a : Int) : Instr.sameBits d (.int k a) (.int k a) = true := by cases d <;> simp [Instr.sameBits]
theorem chk164 (e : Bool) (d : Nat) (a b : Int) (w : World) : (Instr.checkKey e (d + 2) 164 (.agg #[.int .i64 a, .int .i64 b])).run Tryz.prog w = .ok () w := by
  have hS : Tryz.prog.underlying 164 = some (.struct (Tryz.prog.fieldsOf 164)) := by kernel_rfl
  have c2 : ∀ (a : Int) (w : World), (Instr.checkKey e (d + 1) 2 (.int .i64 a)).run Tryz.prog w = .ok () w := chk2 e d
  have a2 := Tryz.isAgg2
  unfold Instr.checkKey
  simp only [Sem.run_bind, run_underlying hS, Result.andThen_ok, Program.fieldsOf, Tryz.underlying164]
  go_simp
theorem key70 : KeyF Tryz.prog 70 eRec where
  eq := eq70.eq
  chk e x w := by
    have hS : Tryz.prog.underlying 70 = some (.struct (Tryz.prog.fieldsOf 70)) := by kernel_rfl
    have c2 : ∀ (a : Int) (w : World), (Instr.checkKey e 9999 2 (.int .i64 a)).run Tryz.prog w = .ok () w := chk2 e 9998
    have a2 := Tryz.isAgg2
    rw [show (10000 : Nat) = 9999 + 1 from rfl]
    unfold Instr.checkKey
    simp only [Sem.run_bind, run_underlying hS, Result.andThen_ok, Program.fieldsOf, Tryz.underlying70, eRec]
    go_simp
  kd := ⟨_, Tryz.underlying70⟩
  same x := by
    rw [show (10000 : Nat) = 9999 + 1 from rfl]
    simp [Instr.sameBits, eRec, ]
/-- A key and a span. -/
def eKS (p : Int × Span) : List Value := [.int .i64 p.1, .int .i64 p.2.frm, .int .i64 p.2.to]
theorem eq286 : EqF Tryz.prog 286 eKS := by
  refine ⟨fun x y w => ?_, by kernel_rfl⟩
  have u2 := Tryz.underlying2
  have a2 := Tryz.isAgg2
  have a164 := Tryz.isAgg164
  have z164 := Tryz.sizeOf164
  have hS : Tryz.prog.underlying 286 = some (.struct (Tryz.prog.fieldsOf 286)) := by kernel_rfl
  have hp : Tryz.prog.stoodInHeld 286 = false := by kernel_rfl
  have q : ∀ (a b c d : Int) (w : World), (Op.equalIn 9999 164 (.agg #[.int .i64 a, .int .i64 b]) (.agg #[.int .i64 c, .int .i64 d])).run Tryz.prog w = .ok (decide ((⟨a, b⟩ : Span) = ⟨c, d⟩)) w := fun a b c d w => eqd164 9997 ⟨a, b⟩ ⟨c, d⟩ w
  obtain ⟨x0, ⟨x1, x2⟩⟩ := x
  obtain ⟨y0, ⟨y1, y2⟩⟩ := y
  simp only [eKS]
  rw [show (10000 : Nat) = 9999 + 1 from rfl, run_equalIn_agg w 9999 286 _ _ hS hp]
  simp only [Program.fieldsOf, Tryz.underlying286]
  go_simp
  by_cases h0 : x0 = y0 <;> by_cases h1 : x1 = y1 <;> by_cases h2 : x2 = y2 <;> simp [h0, h1, h2]
theorem key286 : KeyF Tryz.prog 286 eKS where
  eq := eq286.eq
  chk e x w := by
    have hS : Tryz.prog.underlying 286 = some (.struct (Tryz.prog.fieldsOf 286)) := by kernel_rfl
    have c2 : ∀ (a : Int) (w : World), (Instr.checkKey e 9999 2 (.int .i64 a)).run Tryz.prog w = .ok () w := chk2 e 9998
    have c164 : ∀ (a b : Int) (w : World), (Instr.checkKey e 9999 164 (.agg #[.int .i64 a, .int .i64 b])).run Tryz.prog w = .ok () w := chk164 e 9997
    have a2 := Tryz.isAgg2
    have a164 := Tryz.isAgg164
    have z164 := Tryz.sizeOf164
    rw [show (10000 : Nat) = 9999 + 1 from rfl]
    unfold Instr.checkKey
    simp only [Sem.run_bind, run_underlying hS, Result.andThen_ok, Program.fieldsOf, Tryz.underlying286, eKS]
    go_simp
  kd := ⟨_, Tryz.underlying286⟩
  same x := by
    rw [show (10000 : Nat) = 9999 + 1 from rfl]
    simp [Instr.sameBits, eKS]
/-! ### bags -/
def bagGo (M : List (Rec × Int)) (l : List Rec) : List (Rec × Int) := l.foldl (fun M x => mPut x (mGet x M + 1) M) M
def bagOf (l : List Rec) : List (Rec × Int) := bagGo [] l
def withinM (A B : List (Rec × Int)) : Bool := A.all (fun p => !decide (mGet p.1 B < p.2))
/-- Has b each record of a at least as often? -/
def within (a b : List Rec) : Bool := withinM (bagOf a) (bagOf b)
theorem bag_take (l : List Rec) (k : Nat) (hk : k < l.length) : bagOf (l.take (k + 1)) = mPut l[k] (mGet l[k] (bagOf (l.take k)) + 1) (bagOf (l.take k)) := by
  unfold bagOf bagGo
  rw [List.take_succ_eq_append_getElem hk, List.foldl_append]; rfl
/-- No key twice. -/
def Keyed {κ : Type} (M : List (κ × Int)) : Prop := M.Pairwise (fun p q => p.1 ≠ q.1)
section
variable {κ : Type} [DecidableEq κ]
theorem kFind_none {k : κ} {M : List (κ × Int)} (h : kFind k M = none) : ∀ p ∈ M, p.1 ≠ k := fun p hp e => by
  unfold kFind at h
  have := List.findIdx?_eq_none_iff.1 h p hp
  simp [e] at this
theorem mPut_keyed {k : κ} {v : Int} {M : List (κ × Int)} (h : Keyed M) : Keyed (mPut k v M) := by
  unfold mPut
  cases hf : kFind k M with
  | some j =>
    obtain ⟨hj, hk⟩ := kFind_lt hf
    dsimp only
    refine List.pairwise_iff_getElem.2 (fun a b ha hb hab => ?_)
    rw [List.length_set] at ha hb
    have hp := List.pairwise_iff_getElem.1 h a b ha hb hab
    rw [List.getElem_set, List.getElem_set]
    by_cases e1 : j = a
    · subst e1
      rw [if_pos rfl, if_neg (by omega)]
      exact fun e => hp (hk.trans e)
    · rw [if_neg e1]
      by_cases e2 : j = b
      · subst e2
        rw [if_pos rfl]
        exact fun e => hp (e.trans hk.symm)
      · rw [if_neg e2]; exact hp
  | none =>
    dsimp only
    refine List.pairwise_append.2 ⟨h, List.pairwise_singleton _ _, fun p hp q hq => ?_⟩
    rw [List.mem_singleton.1 hq]
    exact kFind_none hf p hp
theorem mGet_mem {k : κ} {v : Int} {M : List (κ × Int)} (h : Keyed M) (hm : (k, v) ∈ M) : mGet k M = v := by
  unfold mGet
  cases hf : kFind k M with
  | none => exact absurd rfl (kFind_none hf _ hm)
  | some j =>
    obtain ⟨hj, hk⟩ := kFind_lt hf
    obtain ⟨i, hi, he⟩ := List.getElem_of_mem hm
    have : i = j := by
      rcases Nat.lt_trichotomy i j with h1 | h1 | h1
      · exact absurd (by rw [he, hk]) (List.pairwise_iff_getElem.1 h i j hi hj h1)
      · exact h1
      · exact absurd (by rw [he, hk]) (List.pairwise_iff_getElem.1 h j i hj hi h1)
    subst this
    simp [valAt, List.getElem?_eq_getElem hj, he]
theorem mGet_none {k : κ} {M : List (κ × Int)} (h : ∀ p ∈ M, p.1 ≠ k) : mGet k M = 0 := by
  unfold mGet
  cases hf : kFind k M with
  | none => rfl
  | some j =>
    obtain ⟨hj, hk⟩ := kFind_lt hf
    exact absurd hk (h _ (List.getElem_mem hj))
theorem mPut_mem {k : κ} {v : Int} {M : List (κ × Int)} {p : κ × Int} (h : Keyed M) : p ∈ mPut k v M ↔ p = (k, v) ∨ (p ∈ M ∧ p.1 ≠ k) := by
  unfold mPut
  cases hf : kFind k M with
  | some j =>
    obtain ⟨hj, hk⟩ := kFind_lt hf
    dsimp only
    constructor
    · intro hp
      obtain ⟨i, hi, rfl⟩ := List.getElem_of_mem hp
      rw [List.length_set] at hi
      rw [List.getElem_set]
      by_cases e : j = i
      · rw [if_pos e]; exact .inl rfl
      · rw [if_neg e]
        refine .inr ⟨List.getElem_mem hi, fun e1 => ?_⟩
        rcases Nat.lt_or_gt_of_ne e with h1 | h1
        · exact List.pairwise_iff_getElem.1 h j i hj hi h1 (by rw [hk, e1])
        · exact List.pairwise_iff_getElem.1 h i j hi hj h1 (by rw [hk, e1])
    · rintro (rfl | ⟨hp, hne⟩)
      · exact List.mem_set hj _
      · obtain ⟨i, hi, rfl⟩ := List.getElem_of_mem hp
        have e : j ≠ i := fun e => hne (by subst e; exact hk)
        have : (M.set j (k, v))[i]'(by rw [List.length_set]; exact hi) = M[i] := List.getElem_set_ne e _
        rw [← this]; exact List.getElem_mem _
  | none =>
    dsimp only
    rw [List.mem_append, List.mem_singleton]
    constructor
    · rintro (hp | rfl)
      · exact .inr ⟨hp, kFind_none hf p hp⟩
      · exact .inl rfl
    · rintro (rfl | ⟨hp, _⟩)
      · exact .inr rfl
      · exact .inl hp
theorem mGet_put (k y : κ) (v : Int) {M : List (κ × Int)} (h : Keyed M) : mGet y (mPut k v M) = if y = k then v else mGet y M := by
  split
  · rename_i e
    subst e
    exact mGet_mem (mPut_keyed h) ((mPut_mem h).2 (.inl rfl))
  · rename_i hne
    by_cases hy : ∃ u, (y, u) ∈ M
    · obtain ⟨u, hu⟩ := hy
      rw [mGet_mem h hu]
      exact mGet_mem (mPut_keyed h) ((mPut_mem h).2 (.inr ⟨hu, hne⟩))
    · have h1 : mGet y M = 0 := mGet_none (fun p hp e => hy ⟨p.2, by rw [← e]; exact hp⟩)
      rw [h1]
      refine mGet_none (fun p hp e => ?_)
      rcases (mPut_mem h).1 hp with rfl | ⟨hp, _⟩
      · exact hne e.symm
      · exact hy ⟨p.2, by rw [← e]; exact hp⟩
end
theorem bagGo_spec : ∀ (l : List Rec) (M : List (Rec × Int)), Keyed M → Keyed (bagGo M l) ∧ ∀ x, mGet x (bagGo M l) = mGet x M + (l.count x : Int)
  | [], M, h => ⟨h, fun x => by simp [bagGo]⟩
  | y :: l, M, h => by
    have ih := bagGo_spec l (mPut y (mGet y M + 1) M) (mPut_keyed h)
    refine ⟨ih.1, fun x => ?_⟩
    show mGet x (bagGo (mPut y (mGet y M + 1) M) l) = _
    rw [ih.2 x, mGet_put _ _ _ h, List.count_cons]
    by_cases e : x = y
    · subst e; simp; omega
    · have e2 : (y == x) = false := by simpa using fun h => e h.symm
      rw [if_neg e, e2]; simp
theorem bag_get (l : List Rec) (x : Rec) : mGet x (bagOf l) = (l.count x : Int) := by
  have := (bagGo_spec l [] List.Pairwise.nil).2 x
  rw [show mGet x ([] : List (Rec × Int)) = 0 from rfl, Int.zero_add] at this
  exact this
theorem bag_keyed (l : List Rec) : Keyed (bagOf l) := (bagGo_spec l [] List.Pairwise.nil).1
theorem within_iff (a b : List Rec) : within a b = true ↔ ∀ x, a.count x ≤ b.count x := by
  unfold within withinM
  rw [List.all_eq_true]
  constructor
  · intro h x
    by_cases hx : ∃ u, (x, u) ∈ bagOf a
    · obtain ⟨u, hu⟩ := hx
      have h1 := h _ hu
      have h2 := mGet_mem (bag_keyed a) hu
      rw [bag_get] at h2
      simp only [bag_get, Bool.not_eq_true', decide_eq_false_iff_not] at h1
      omega
    · have h2 := mGet_none (k := x) (M := bagOf a) (fun p hp e => hx ⟨p.2, by rw [← e]; exact hp⟩)
      rw [bag_get] at h2
      omega
  · intro h p hp
    have h2 := mGet_mem (bag_keyed a) hp
    rw [bag_get] at h2
    have := h p.1
    simp only [bag_get, Bool.not_eq_true', decide_eq_false_iff_not]
    omega
theorem nodup_lt : ∀ (n : Nat) (l : List Nat), l.Nodup → (∀ x ∈ l, x < n) → l.length ≤ n
  | 0, l, _, h => by
    cases l with
    | nil => simp
    | cons a l => have := h a (by simp); omega
  | n + 1, l, hn, h => by
    have h1 := nodup_lt n (l.erase n) (hn.erase n) (fun x hx => by
      have hx' := (List.Nodup.mem_erase_iff hn).1 hx
      have := h x hx'.2
      omega)
    by_cases hm : n ∈ l
    · rw [List.length_erase_of_mem hm] at h1; omega
    · rw [List.erase_of_not_mem hm] at h1; omega

theorem bagof_calls (m : Nat → Prop) (A : Option Addr) (c : Nat) (l : List Rec) (w : World) (hr : Ro m w (fun w => kRec.Row w A l)) (hc : l.length ≤ c) (hl : l.length ≤ 1099511627776) :
    Calls Tryz.prog 94 #[.slice A l.length c] w (Post m w (fun b : Nat => .map (some b)) (fun _ => True) (fun b => [.obj b (mObj eRec (bagOf l))]) (fun _ _ => True)) := by
  refine calls_of_Wc (args := [.slice A l.length c]) 21 Tryz.func94 rfl rfl (by simp) ?_
  refine Wc.start hr ?_
  refine Wc.seq ?_
  refine Wc.region ?_
  refine Wl.assign rfl rfl ?_
  refine Wl.nil ?_
  refine Wx.then_n ?_
  refine Wc.seq ?_
  refine Wc.region ?_
  refine Wl.mkmap eRec rfl (fun b6 => ?_)
  refine Wl.assign rfl rfl ?_
  refine Wl.nil ?_
  refine Wx.then_n ?_
  refine Wc.seq ?_
  refine Wc.seq ?_
  refine Wc.region ?_
  refine Wl.move rfl rfl ?_
  refine Wl.len Tryz.underlying59 rfl rfl ?_
  refine Wl.move rfl rfl ?_
  refine Wl.nil ?_
  refine Wx.then_n ?_
  refine Wc.block ?_
  refine Wc.loopS (G := Nat) (fun g => match g with | k => [(3, .map (some b6)), (7, .slice A l.length c), (8, .int .i64 l.length), (9, .int .i64 k)]) (fun g => match g with | k => k ≤ l.length) (fun g => match g with | k => [.obj b6 (mObj eRec (bagOf (l.take k)))]) (fun g => match g with | k => fun w => kRec.Row w A l) (fun g => match g with | k => l.length - k) 0 ⟨rfl, rfl, rfl, rfl, trivial⟩ (Nat.zero_le _) (fun w hw => hw) ?_
  rintro k hk0
  dsimp only
  refine Wc.seq ?_
  refine Wc.region ?_
  refine Wl.lss rfl rfl rfl ?_
  refine Wl.nil ?_
  refine Wx.then_n ?_
  refine Wc.seq ?_
  refine Wc.condp rfl (fun h10 => ?_) (fun h10 => ?_)
  ·
    have hk : k < l.length := by omega
    refine Wc.pure (p := ∃ ad, A = some ad) (fun w hw => hw.addr (fun w h => h) (by omega)) ?_
    rintro ⟨ad, rfl⟩
    have hbd : 0 ≤ mGet l[k] (bagOf (l.take k)) ∧ mGet l[k] (bagOf (l.take k)) ≤ k := by rw [bag_get]; have := List.count_le_length (a := l[k]) (l := l.take k); rw [List.length_take] at this; omega
    refine Wc.skip ?_
    refine Wx.then_n ?_
    refine Wc.cutS (G := Nat) (fun g => match g with | u => [(3, .map (some b6)), (7, .slice (some ad) l.length c), (8, .int .i64 l.length), (9, .int .i64 k)]) (fun g => match g with | u => True) (fun g => match g with | u => [.obj b6 (mObj eRec (bagOf (l.take (k + 1))))]) (fun g => match g with | u => fun w => kRec.Row w (some ad) l) ?_ ?_
    ·
      refine Wc.block ?_
      refine Wc.seq ?_
      refine Wc.region ?_
      refine Wl.idx Tryz.underlying59 t70 rfl rfl rfl hk ?_
      refine Wl.loadrw (cs := eRec l[k]) t70 (fun w h => h.cells k hk) rfl rfl rfl ?_
      refine Wl.alloc t70 rfl rfl (fun b5 => ?_)
      refine Wl.storew 1 t70 rfl rfl rfl rfl rfl rfl rfl ?_
      refine Wl.nil ?_
      refine Wx.then_n ?_
      refine Wb.start [0] 6 mixed (fun w hw => hw.drew) (by kernel_rfl) ?_
      refine Wl.move rfl rfl ?_
      refine Wl.nilw ?_
      refine Wb.one 1 rfl (by kernel_rfl) ?_
      refine Wl.loadbw 1 t70 rfl rfl rfl rfl ?_
      refine Wl.nilb ?_
      refine Wb.two 2 4 rfl rfl (by kernel_rfl) ?_ ?_
      ·
        first | refine Wl.look (M := bagOf (l.take k)) (ok := false) 0 key70 Tryz.underlying169 t3 l[k] rfl rfl rfl rfl ?_ | (refine Wl.look (M := mSlot l[k] (bagOf (l.take k))) (ok := false) 0 key70 Tryz.underlying169 t3 l[k] rfl rfl rfl rfl ?_; rw [mGet_slot])
        refine Wl.nilb ?_
        refine Wb.two 3 4 rfl rfl (by kernel_rfl) ?_ ?_
        ·
          refine Wl.add rfl rfl rfl (by omega) ?_
          refine Wl.nilb ?_
          refine Wb.one 4 rfl (by kernel_rfl) ?_
          refine Wl.mapEntry 0 key70 Tryz.underlying169 t3 l[k] rfl rfl rfl rfl ?_
          refine Wl.nilb ?_
          refine Wb.one 5 rfl (by kernel_rfl) ?_
          refine Wl.extract rfl rfl rfl ?_
          refine Wl.nilb ?_
          refine Wb.one 6 rfl (by kernel_rfl) ?_
          refine Wl.entryStore 0 l[k] rfl rfl rfl rfl ?_
          refine Wl.nilb ?_
          refine Wb.done (by kernel_rfl) ?_
          refine Wx.block_n ?_
          exact Wx.metS 0 ⟨rfl, rfl, rfl, rfl, trivial⟩ trivial (fun w hw => by (try dsimp only); rw [bag_take l k hk]; exact hw.take 1)
        ·
          refine Wl.mapEntry 0 key70 Tryz.underlying169 t3 l[k] rfl rfl rfl rfl ?_
          refine Wl.nilb ?_
          refine Wb.two 3 5 rfl rfl (by kernel_rfl) ?_ ?_
          ·
            refine Wl.add rfl rfl rfl (by omega) ?_
            refine Wl.nilb ?_
            refine Wb.one 5 rfl (by kernel_rfl) ?_
            refine Wl.extract rfl rfl rfl ?_
            refine Wl.nilb ?_
            refine Wb.one 6 rfl (by kernel_rfl) ?_
            refine Wl.entryStore 0 l[k] rfl rfl rfl rfl ?_
            refine Wl.nilb ?_
            refine Wb.done (by kernel_rfl) ?_
            refine Wx.block_n ?_
            exact Wx.metS 0 ⟨rfl, rfl, rfl, rfl, trivial⟩ trivial (fun w hw => by (try dsimp only); rw [bag_take l k hk]; exact hw.take 1)
          ·
            refine Wl.extract rfl rfl rfl ?_
            refine Wl.nilb ?_
            refine Wb.one 3 rfl (by kernel_rfl) ?_
            refine Wl.add rfl rfl rfl (by omega) ?_
            refine Wl.nilb ?_
            refine Wb.one 6 rfl (by kernel_rfl) ?_
            refine Wl.entryStore 0 l[k] rfl rfl rfl rfl ?_
            refine Wl.nilb ?_
            refine Wb.done (by kernel_rfl) ?_
            refine Wx.block_n ?_
            exact Wx.metS 0 ⟨rfl, rfl, rfl, rfl, trivial⟩ trivial (fun w hw => by (try dsimp only); rw [bag_take l k hk]; exact hw.take 1)
      ·
        refine Wl.mapEntry 0 key70 Tryz.underlying169 t3 l[k] rfl rfl rfl rfl ?_
        refine Wl.nilb ?_
        refine Wb.two 2 5 rfl rfl (by kernel_rfl) ?_ ?_
        ·
          first | refine Wl.look (M := bagOf (l.take k)) (ok := false) 0 key70 Tryz.underlying169 t3 l[k] rfl rfl rfl rfl ?_ | (refine Wl.look (M := mSlot l[k] (bagOf (l.take k))) (ok := false) 0 key70 Tryz.underlying169 t3 l[k] rfl rfl rfl rfl ?_; rw [mGet_slot])
          refine Wl.nilb ?_
          refine Wb.two 3 5 rfl rfl (by kernel_rfl) ?_ ?_
          ·
            refine Wl.add rfl rfl rfl (by omega) ?_
            refine Wl.nilb ?_
            refine Wb.one 5 rfl (by kernel_rfl) ?_
            refine Wl.extract rfl rfl rfl ?_
            refine Wl.nilb ?_
            refine Wb.one 6 rfl (by kernel_rfl) ?_
            refine Wl.entryStore 0 l[k] rfl rfl rfl rfl ?_
            refine Wl.nilb ?_
            refine Wb.done (by kernel_rfl) ?_
            refine Wx.block_n ?_
            exact Wx.metS 0 ⟨rfl, rfl, rfl, rfl, trivial⟩ trivial (fun w hw => by (try dsimp only); rw [bag_take l k hk]; exact hw.take 1)
          ·
            refine Wl.extract rfl rfl rfl ?_
            refine Wl.nilb ?_
            refine Wb.one 3 rfl (by kernel_rfl) ?_
            refine Wl.add rfl rfl rfl (by omega) ?_
            refine Wl.nilb ?_
            refine Wb.one 6 rfl (by kernel_rfl) ?_
            refine Wl.entryStore 0 l[k] rfl rfl rfl rfl ?_
            refine Wl.nilb ?_
            refine Wb.done (by kernel_rfl) ?_
            refine Wx.block_n ?_
            exact Wx.metS 0 ⟨rfl, rfl, rfl, rfl, trivial⟩ trivial (fun w hw => by (try dsimp only); rw [bag_take l k hk]; exact hw.take 1)
        ·
          refine Wl.extract rfl rfl rfl ?_
          refine Wl.nilb ?_
          refine Wb.one 2 rfl (by kernel_rfl) ?_
          first | refine Wl.look (M := bagOf (l.take k)) (ok := false) 0 key70 Tryz.underlying169 t3 l[k] rfl rfl rfl rfl ?_ | (refine Wl.look (M := mSlot l[k] (bagOf (l.take k))) (ok := false) 0 key70 Tryz.underlying169 t3 l[k] rfl rfl rfl rfl ?_; rw [mGet_slot])
          refine Wl.nilb ?_
          refine Wb.one 3 rfl (by kernel_rfl) ?_
          refine Wl.add rfl rfl rfl (by omega) ?_
          refine Wl.nilb ?_
          refine Wb.one 6 rfl (by kernel_rfl) ?_
          refine Wl.entryStore 0 l[k] rfl rfl rfl rfl ?_
          refine Wl.nilb ?_
          refine Wb.done (by kernel_rfl) ?_
          refine Wx.block_n ?_
          exact Wx.metS 0 ⟨rfl, rfl, rfl, rfl, trivial⟩ trivial (fun w hw => by (try dsimp only); rw [bag_take l k hk]; exact hw.take 1)
    ·
      rintro u _
      dsimp only
      refine Wc.region ?_
      refine Wl.add rfl rfl rfl (by omega) ?_
      refine Wl.move rfl rfl ?_
      refine Wl.nil ?_
      exact Wx.againS (k + 1) (by (try dsimp only); omega) ⟨rfl, rfl, rfl, rfl, trivial⟩ hk (fun w hw => hw)
  ·
    refine Wc.exit ?_
    refine Wx.then_e ?_
    refine Wx.then_e ?_
    refine Wx.block_e ?_
    refine Wx.then_n ?_
    refine Wc.seq ?_
    refine Wc.region ?_
    refine Wl.move rfl rfl ?_
    refine Wl.assign rfl rfl ?_
    refine Wl.nil ?_
    refine Wx.then_n ?_
    refine Wc.ret ?_
    obtain rfl : k = l.length := by omega
    rw [List.take_length]
    exact Wx.retP b6 rfl rfl trivial (fun w hw => hw.imp fun _ _ => trivial)

theorem bagwithin_calls (m : Nat → Prop) (b1 b2 : Nat) (A B : List (Rec × Int)) (w : World) (hr : Ro m w (fun w => w.heap[b1]? = some (mObj eRec A) ∧ w.heap[b2]? = some (mObj eRec B))) :
    Calls Tryz.prog 95 #[.map (some b1), .map (some b2)] w (PostV m w (.bool (withinM A B))) := by
  refine calls_of_Wc (args := [.map (some b1), .map (some b2)]) 19 Tryz.func95 rfl rfl (by simp) ?_
  refine Wc.start hr ?_
  refine Wc.seq ?_
  refine Wc.region ?_
  refine Wl.assign rfl rfl ?_
  refine Wl.nil ?_
  refine Wx.then_n ?_
  refine Wc.seq ?_
  refine Wc.seq ?_
  refine Wc.region ?_
  refine Wl.move rfl rfl ?_
  refine Wl.rng (M := A) (ek := eRec) Tryz.underlying169 rfl rfl (fun w hw => hw.now.1) (fun b8 => ?_)
  refine Wl.nil ?_
  refine Wx.then_n ?_
  refine Wc.block ?_
  refine Wc.loopS (G := List Nat) (fun g => match g with | seen => [(1, .map (some b2)), (8, .pointer (some ⟨b8, 0, none⟩))]) (fun g => match g with | seen => seen.Nodup ∧ (∀ i ∈ seen, i < A.length) ∧ ∀ i ∈ seen, ∀ p, A[i]? = some p → ¬ mGet p.1 B < p.2) (fun g => match g with | seen => [.obj b8 (itObj b1 A.length seen)]) (fun g => match g with | seen => fun w => w.heap[b1]? = some (mObj eRec A) ∧ w.heap[b2]? = some (mObj eRec B)) (fun g => match g with | seen => A.length - seen.length) [] ⟨rfl, rfl, trivial⟩ ⟨List.nodup_nil, by simp, by simp⟩ (fun w hw => hw) ?_
  rintro seen ⟨hs1, hs2, hs3⟩
  dsimp only
  refine Wc.seq ?_
  refine Wc.region ?_
  refine Wl.next (M := A) (ek := eRec) 0 rfl rfl rfl (fun w hw => hw.now.1) (fun g hg => ?_)
  refine Wl.extract rfl (show (nextVals eRec A g)[0]? = some (.bool g.isSome) by cases g <;> rfl) rfl ?_
  refine Wl.nil ?_
  refine Wx.then_n ?_
  refine Wc.seq ?_
  refine Wc.cond rfl (fun h10 => ?_) (fun h10 => ?_)
  ·
    obtain ⟨i, rfl⟩ := Option.isSome_iff_exists.1 h10
    obtain ⟨hi, hns⟩ := hg
    have hl1 := nodup_lt A.length (seen ++ [i]) (by rw [List.nodup_append]; exact ⟨hs1, by simp, fun a ha b hb e => by rw [List.mem_singleton.1 hb] at e; exact hns (e ▸ ha)⟩) (fun x hx => by rcases List.mem_append.1 hx with hx | hx; exact hs2 x hx; rw [List.mem_singleton.1 hx]; exact hi)
    rw [List.length_append, List.length_singleton] at hl1
    refine Wc.skip ?_
    refine Wx.then_n ?_
    refine Wc.block ?_
    refine Wc.seq ?_
    refine Wc.region ?_
    refine Wl.entry (M := A) (seen := seen) (j := i) (ek := eRec) 0 rfl rfl rfl hi (fun w hw => hw.now.1) ?_
    refine Wl.extract rfl rfl rfl ?_
    refine Wl.extract rfl rfl rfl ?_
    refine Wl.alloc t70 rfl rfl (fun b5 => ?_)
    refine Wl.storew 1 t70 rfl rfl rfl rfl rfl rfl rfl ?_
    refine Wl.assign rfl rfl ?_
    refine Wl.nil ?_
    refine Wx.then_n ?_
    refine Wc.seq ?_
    refine Wc.region ?_
    refine Wl.move rfl rfl ?_
    refine Wl.loadbw 1 t70 rfl rfl rfl rfl ?_
    refine Wl.lookR (ok := false) key70 Tryz.underlying169 t3 A[i].1 rfl rfl rfl (fun w hw => hw.now.2) ?_
    refine Wl.move rfl rfl ?_
    refine Wl.lss rfl rfl rfl ?_
    refine Wl.nil ?_
    refine Wx.then_n ?_
    refine Wc.condp rfl (fun h18 => ?_) (fun h18 => ?_)
    ·
      refine Wc.seq ?_
      refine Wc.region ?_
      refine Wl.assign rfl rfl ?_
      refine Wl.nil ?_
      refine Wx.then_n ?_
      refine Wc.ret ?_
      refine Wx.block_r ?_
      refine Wx.then_r ?_
      refine Wx.block_r ?_
      refine Wx.then_r ?_
      exact Wx.retB rfl rfl (by unfold withinM; symm; rw [List.all_eq_false]; exact ⟨_, List.getElem_mem hi, by simpa using h18⟩)
    ·
      refine Wc.skip ?_
      refine Wx.block_n ?_
      exact Wx.againS (seen ++ [i]) (by (try dsimp only); rw [List.length_append, List.length_singleton]; omega) ⟨rfl, rfl, trivial⟩ ⟨by rw [List.nodup_append]; exact ⟨hs1, by simp, fun a ha b hb e => by rw [List.mem_singleton.1 hb] at e; exact hns (e ▸ ha)⟩, fun x hx => by rcases List.mem_append.1 hx with hx | hx; exact hs2 x hx; rw [List.mem_singleton.1 hx]; exact hi, fun x hx p hp => by rcases List.mem_append.1 hx with hx | hx; exact hs3 x hx p hp; rw [List.mem_singleton.1 hx, List.getElem?_eq_getElem hi] at hp; cases hp; exact h18⟩ (fun w hw => hw.take 1)
  ·
    have hg0 : g = none := by cases g with | none => rfl | some i => cases h10
    subst hg0
    refine Wc.exit ?_
    refine Wx.then_e ?_
    refine Wx.then_e ?_
    refine Wx.block_e ?_
    refine Wx.then_n ?_
    refine Wc.seq ?_
    refine Wc.region ?_
    refine Wl.assign rfl rfl ?_
    refine Wl.nil ?_
    refine Wx.then_n ?_
    refine Wc.ret ?_
    exact Wx.retB rfl rfl (by unfold withinM; symm; rw [List.all_eq_true]; intro p hp; obtain ⟨i, hi, rfl⟩ := List.getElem_of_mem hp; have := hs3 i (hg i hi) _ (List.getElem?_eq_getElem hi); simpa using this)

theorem within_calls (m : Nat → Prop) (A B : Option Addr) (c c' : Nat) (a b : List Rec) (w : World) (hr : Ro m w (fun w => kRec.Row w A a ∧ kRec.Row w B b)) (hc : a.length ≤ c) (hc' : b.length ≤ c') (hl : a.length ≤ 1099511627776) (hl' : b.length ≤ 1099511627776) :
    Calls Tryz.prog 45 #[.slice A a.length c, .slice B b.length c'] w (PostV m w (.bool (within a b))) := by
  refine calls_of_Wc (args := [.slice A a.length c, .slice B b.length c']) 10 Tryz.func45 rfl rfl (by simp) ?_
  refine Wc.start hr ?_
  refine Wc.seq ?_
  refine Wc.region ?_
  refine Wl.assign rfl rfl ?_
  refine Wl.nil ?_
  refine Wx.then_n ?_
  refine Wc.seq ?_
  refine Wc.region ?_
  refine Wl.move rfl rfl ?_
  refine Wl.callS [_] Tryz.func94 rfl rfl rfl rfl (fun w hw => bagof_calls _ A c a w (hw.read fun w h => h.1) hc hl) (fun g6 hg6 => ?_)
  refine Wl.freeze 0 rfl ?_
  refine Wl.move rfl rfl ?_
  refine Wl.callS [_] Tryz.func94 rfl rfl rfl rfl (fun w hw => bagof_calls _ B c' b w (hw.read fun w h => h.1.1.2) hc' hl') (fun g8 hg8 => ?_)
  refine Wl.freeze 0 rfl ?_
  refine Wl.callV [.map (some g6), .map (some g8)] Tryz.func95 rfl rfl rfl rfl (fun w hw => bagwithin_calls _ g6 g8 (bagOf a) (bagOf b) w (hw.read fun w h => ⟨h.1.1.2, h.2⟩)) ?_
  refine Wl.assign rfl rfl ?_
  refine Wl.nil ?_
  refine Wx.then_n ?_
  refine Wc.ret ?_
  exact Wx.retB rfl rfl rfl

end Go.Proofs.YtkffjbijamfnoaaGreat
