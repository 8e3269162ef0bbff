/-
  More returns: slices that are read, rows of slices, structs that hold slices.
-/
import Derived.Test.YtkffjbijamfnoaaGreatHlMaps
import Derived.Test.YtkffjbijamfnoaaGreatLogs
set_option linter.unusedVariables false
set_option linter.unusedSimpArgs false
namespace Go.Proofs.YtkffjbijamfnoaaGreat
open Go.RowKit
section
variable {P : Program} {Q : Exit → Act → World → Prop} {n : Nat} {F : Fr} {w0 : World} {m : Nat → Prop} {L : List Blk} {R : World → Prop}
theorem Wx.retRR {α : Type} {fn : Func} {t : Tmp} {dk : Kn α} {xs : List α} (A : Option Addr) (c : Nat) (hr : fn.results = #[.tmp t]) (hv : F.get t = some (.slice A xs.length c)) (hc : xs.length ≤ c) (hR : ∀ w, R w → dk.Row w A xs) :
    Wx (bodyPost P fn (PostR m w0 dk xs)) n .ret F (St w0 (fun _ => False) m L R) :=
  Wx.body_ret _ hr hv (fun w hw => ⟨A, c, rfl, hc, (hw.take 0).imp hR⟩)
theorem own_slices {α : Type} {dk : Kn α} {w : World} {v : Value} {e : TypeId} {ps : List Sl} {xss : List (List α)} (hi : Inner dk w ps xss) (ho : (rowOf eSl v e 1 ps).holds w) : ∃ A c, v = .slice A xss.length c ∧ xss.length ≤ c ∧ dk.slice.Row w A xss := by
  obtain ⟨A, c, rfl, hc, _⟩ := own_row_pure (enc := eSl) (sz := 1) (fun _ => rfl) (fun _ => rfl) (by decide) ho rfl
  refine ⟨A, c, by rw [hi.1], by rw [← hi.1]; exact hc, hi.row ho⟩
theorem Wx.retRS {α : Type} {fn : Func} {t : Tmp} {dk : Kn α} {v : Value} {e : TypeId} {xss : List (List α)} {ps : List Sl} (hr : fn.results = #[.tmp t]) (hv : F.get t = some v) (hL : ∀ w, St w0 (fun _ => False) m L R w → St w0 (fun _ => False) m [rowOf eSl v e 1 ps] (fun w => Inner dk w ps xss) w) :
    Wx (bodyPost P fn (PostR m w0 dk.slice xss)) n .ret F (St w0 (fun _ => False) m L R) :=
  Wx.body_ret v hr hv (fun w hw => by
    have h2 := hL w hw
    obtain ⟨A, c, rfl, hc, hrow⟩ := own_slices h2.now (h2.get (i := 0) rfl)
    refine ⟨A, c, rfl, hc, (h2.freeze 0 rfl).imp (fun w h => ?_)⟩
    obtain ⟨A', c', he, _, hrow'⟩ := own_slices h.1 h.2
    injection he with he _ _
    subst he
    exact hrow')
/-- A struct that lies in a cell, what it leads to read. -/
theorem Wx.retPC {G : Type} {fn : Func} {a : Tmp} {t t' : TypeId} {z : Value} {sz by_ b : Nat} {cs : List Value} {v : G → Value} {p : G → Prop} {L' : G → List Blk} {R' : G → World → Prop} (i : Nat) (g : G) (hT : TyF P t true z sz by_) (hr : fn.results = #[.cell a t]) (ha : F.get a = some (.pointer (some ⟨b, 0, none⟩))) (hL : L[i]? = some (.box b cs t')) (hl : cs.length = sz) (hv : v g = .agg cs.toArray) (hp : p g)
    (hH : ∀ w, St w0 (fun _ => False) m L R w → St w0 (fun _ => False) m (L' g) (R' g) w) : Wx (bodyPost P fn (Post m w0 v p L' R')) n .ret F (St w0 (fun _ => False) m L R) := fun x w ho hw =>
  ⟨ho.1, _, run_results_cell hr hT (Fr.ok_ev ho (x := .tmp a) ha) hl (Blk.box_cells (hw.get hL)), g, by rw [hv], hp, hH w hw⟩
end
section
variable {P : Program} {ops : Array Oper} {Q : Exit → Act → World → Prop} {n : Nat} {F : Fr} {rest : List Oper} {d ty : Nat} {pos : String} {af : Array Edge} {md : Option (Bool × (Act → Prop))} {H : World → Prop} {g : Option (Nat × Bool)}
theorem Wl.fieldv {t : TypeId} {x : Operand} {f : Nat} {u v : Value} (hx : F.ev x = some u) (hr : ∀ w, (Instr.field t u f).run P w = .ok v w) (hn : Nat.blt d n = true)
    (h : Wl md P ops Q n rest ((d, v) :: F) H) (hg : wantedF ops F g = some true := by rfl) :
    Wl md P ops Q n ({ dst := some d, op := .field t x f, type := ty, pos := pos, after := af, guard := g } :: rest) F H :=
  Wl.val _ rfl hn (fun ρ hρ w hw => by simp [execOp, hρ _ _ hx, hr w]) h hg
end
section
variable {P : Program} {ops : Array Oper} {Q : Exit → Act → World → Prop} {n : Nat} {F : Fr} {H : World → Prop}
theorem Wany.effs {l : List Oper} {S : World → Prop} {f : Nat} {listed : Array Bool} {is : List Nat} (hr : Region.ready .any l.toArray listed = is) (hne : is ≠ [])
    (h : ∀ k ∈ is, ∃ o, l[k]? = some o ∧ Wl none P l.toArray (Eff P l.toArray Q S f (listed.setIfInBounds k true)) n [o] F H) : Wany P l.toArray Q n S (f + 1) listed F H := fun a w hok hw => by
  refine wpAnyH_all hr (by simpa using hne) fun i hi => ?_
  obtain ⟨o, ho, h⟩ := h i hi
  have h1 := h a w hok hw
  unfold wpOp
  simp only [show l.toArray[i]? = some o by simpa using ho]
  simp only [wpList] at h1
  split
  · rename_i hwn
    rw [if_pos hwn] at h1
    rcases h1 with h1 | ⟨h3, h2⟩
    · exact .inl (wp_eff (fun _ _ _ h => h) h1 (fun _ h _ => h))
    · exact .inr ⟨h3, h2⟩
  · rename_i hwn
    rw [if_neg hwn] at h1
    exact h1
theorem Wany.eff2 {l : List Oper} {S : World → Prop} {f : Nat} {listed : Array Bool} (i j : Nat) {o o2 : Oper} (ho : l[i]? = some o) (ho2 : l[j]? = some o2) (hr : Region.ready .any l.toArray listed = [i, j])
    (h : Wl none P l.toArray (Eff P l.toArray Q S f (listed.setIfInBounds i true)) n [o] F H) (h2 : Wl none P l.toArray (Eff P l.toArray Q S f (listed.setIfInBounds j true)) n [o2] F H) : Wany P l.toArray Q n S (f + 1) listed F H :=
  Wany.effs hr (by simp) (fun k hk => by
    simp only [List.mem_cons, List.not_mem_nil, or_false] at hk
    rcases hk with rfl | rfl
    · exact ⟨_, ho, h⟩
    · exact ⟨_, ho2, h2⟩)
theorem Wany.eff3 {l : List Oper} {S : World → Prop} {f : Nat} {listed : Array Bool} (i j k : Nat) {o o2 o3 : Oper} (ho : l[i]? = some o) (ho2 : l[j]? = some o2) (ho3 : l[k]? = some o3) (hr : Region.ready .any l.toArray listed = [i, j, k])
    (h : Wl none P l.toArray (Eff P l.toArray Q S f (listed.setIfInBounds i true)) n [o] F H) (h2 : Wl none P l.toArray (Eff P l.toArray Q S f (listed.setIfInBounds j true)) n [o2] F H) (h3 : Wl none P l.toArray (Eff P l.toArray Q S f (listed.setIfInBounds k true)) n [o3] F H) : Wany P l.toArray Q n S (f + 1) listed F H :=
  Wany.effs hr (by simp) (fun k hk => by
    simp only [List.mem_cons, List.not_mem_nil, or_false] at hk
    rcases hk with rfl | rfl | rfl
    · exact ⟨_, ho, h⟩
    · exact ⟨_, ho2, h2⟩
    · exact ⟨_, ho3, h3⟩)
end
theorem St.perm {w0 w : World} {m0 m : Nat → Prop} {L L' : List Blk} {R : World → Prop} (h : St w0 m0 m L R w) (hp : L.Perm L') : St w0 m0 m L' R w :=
  { os := h.os, tape := h.tape, output := h.output, size := h.size, old := h.old, live := fun x hx => h.live x (hp.mem_iff.2 hx), sep := h.sep.perm hp (fun hab k hk e => hab k e hk), new := fun x hx => h.new x (hp.mem_iff.2 hx)
    ro := h.ro.mono (fun k _ hk => hk.imp id fun ⟨x, hx, e⟩ => ⟨x, hp.mem_iff.2 hx, e⟩) }
theorem Inner.at {α : Type} {dk : Kn α} {w : World} {ps : List Sl} {xss : List (List α)} (h : Inner dk w ps xss) (j : Nat) (hj : j < ps.length) (hj2 : j < xss.length) : ps[j].2.1 = xss[j].length ∧ xss[j].length ≤ ps[j].2.2 ∧ dk.Row w ps[j].1 xss[j] := h.2 j _ _ (List.getElem?_eq_getElem hj) (List.getElem?_eq_getElem hj2)
/-- Least. -/
def minL : List Int → Int
  | [] => 0
  | x :: xs => xs.foldl min x
theorem minL_take (l : List Int) (k : Nat) (h0 : 0 < k) (hk : k < l.length) : minL (l.take (k + 1)) = min (minL (l.take k)) l[k] := by
  cases l with
  | nil => simp at hk
  | cons x xs =>
    obtain ⟨k, rfl⟩ : ∃ j, k = j + 1 := ⟨k - 1, by omega⟩
    simp only [List.length_cons] at hk
    simp only [List.take_succ_cons, minL, List.getElem_cons_succ]
    rw [List.take_succ_eq_append_getElem (by omega), List.foldl_append]; rfl
end Go.Proofs.YtkffjbijamfnoaaGreat
