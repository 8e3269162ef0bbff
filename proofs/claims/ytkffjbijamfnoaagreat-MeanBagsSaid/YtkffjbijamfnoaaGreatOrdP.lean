/-
  What is worked out node by node, each behind its inputs. No program in this text.
-/
import Derived.Test.YtkffjbijamfnoaaGreatFit
set_option linter.unusedVariables false
set_option linter.unusedSimpArgs false
namespace Go.Proofs.YtkffjbijamfnoaaGreat
section
variable {β : Type} (F : List β → Int → β)
def goF : List Int → List β → List β
  | [], st => st
  | i :: is, st => goF is (st.set i.toNat (F st i))
theorem goF_length : ∀ (o : List Int) (st : List β), (goF F o st).length = st.length
  | [], _ => rfl
  | i :: is, st => by rw [goF, goF_length is, List.length_set]
theorem goF_append : ∀ (o o' : List Int) (st : List β), goF F (o ++ o') st = goF F o' (goF F o st)
  | [], _, _ => rfl
  | i :: is, o', st => by rw [List.cons_append, goF, goF_append is, goF]
theorem goF_other : ∀ (o : List Int) (st : List β) (k : Nat), (∀ i ∈ o, 0 ≤ i) → (k : Int) ∉ o → (goF F o st)[k]? = st[k]?
  | [], _, _, _, _ => rfl
  | i :: is, st, k, h0, hk => by
    rw [goF, goF_other is _ k (fun j hj => h0 j (List.mem_cons_of_mem _ hj)) (fun h => hk (List.mem_cons_of_mem _ h)), List.getElem?_set_ne]
    intro e
    have := h0 i (List.mem_cons_self ..)
    exact hk (by rw [← e, Int.toNat_of_nonneg this]; exact List.mem_cons_self ..)
/-- Each behind its inputs, none twice. -/
structure Topo (ins : Int → List Int) (o : List Int) : Prop where
  nodup : o.Nodup
  early : ∀ (j : Nat) (h : j < o.length), ∀ k ∈ ins o[j], k ∈ o.take j
  pos : ∀ i ∈ o, 0 ≤ i
theorem goF_eq {ins : Int → List Int} (hF : ∀ (st st' : List β) (i : Int), (∀ k ∈ ins i, st[k.toNat]? = st'[k.toNat]?) → F st i = F st' i) {o : List Int} (ht : Topo ins o) {st : List β} (hl : ∀ i ∈ o, i.toNat < st.length) (i : Int) (hi : i ∈ o) : (goF F o st)[i.toNat]? = some (F (goF F o st) i) := by
  obtain ⟨j, hj, rfl⟩ := List.getElem_of_mem hi
  have hsplit : o = o.take j ++ o[j] :: o.drop (j + 1) := by
    rw [← List.drop_eq_getElem_cons hj, List.take_append_drop]
  have hnd := ht.nodup
  rw [hsplit] at hnd
  have h1 := List.nodup_append.1 hnd
  have h2 := List.nodup_cons.1 h1.2.1
  have hpos := ht.pos o[j] (List.getElem_mem hj)
  have hlj := hl o[j] (List.getElem_mem hj)
  have hfin : goF F o st = goF F (o.drop (j + 1)) ((goF F (o.take j) st).set o[j].toNat (F (goF F (o.take j) st) o[j])) := by
    conv => lhs; rw [hsplit]
    rw [goF_append, goF]
  have p2 : ∀ i ∈ o.drop (j + 1), 0 ≤ i := fun i hi => ht.pos i (List.mem_of_mem_drop hi)
  have e1 : (goF F o st)[o[j].toNat]? = some (F (goF F (o.take j) st) o[j]) := by
    rw [hfin, goF_other F _ _ _ p2 (by rw [Int.toNat_of_nonneg hpos]; exact h2.1), List.getElem?_set_self (by rw [goF_length]; exact hlj)]
  rw [e1]
  congr 1
  refine hF _ _ _ (fun k hk => ?_)
  have hke := ht.early j hj k hk
  have hk0 := ht.pos k (List.mem_of_mem_take hke)
  have hkn : k ∉ o[j] :: o.drop (j + 1) := fun h => h1.2.2 k hke k h rfl
  rw [hfin, goF_other F _ _ _ p2 (by rw [Int.toNat_of_nonneg hk0]; exact fun h => hkn (List.mem_cons_of_mem _ h)), List.getElem?_set_ne]
  intro e
  refine hkn ?_
  have : k = o[j] := by omega
  rw [this]; exact List.mem_cons_self ..
end
def insOf (ns : List Node) (i : Int) : List Int := ((ns[i.toNat]?).map Node.ins).getD []
theorem orderGo_topo {ns : List Node} : ∀ (N : Nat) (out : List Int), free ns out ≤ N → Topo (insOf ns) out → (∀ k ∈ out, 0 ≤ k ∧ k < ns.length) → Topo (insOf ns) (orderGo ns out) := by
  intro N
  have step : ∀ (out : List Int) (i : Nat), (List.range ns.length).find? (ready ns out) = some i → Topo (insOf ns) out → Topo (insOf ns) (out ++ [(i : Int)]) := by
    intro out i hf ht
    have hr := List.find?_some hf
    have hlt := ready_lt hr
    rw [ready_iff hlt.1] at hr
    simp only [Bool.and_eq_true, List.all_eq_true, decide_eq_true_eq] at hr
    refine ⟨?_, fun j hj k hk => ?_, fun x hx => ?_⟩
    · rw [List.nodup_append]
      exact ⟨ht.nodup, by simp, fun a ha b hb e => by rw [List.mem_singleton.1 hb] at e; exact hlt.2 (e ▸ ha)⟩
    · rw [List.length_append, List.length_singleton] at hj
      by_cases h : j < out.length
      · rw [List.getElem_append_left h] at hk
        rw [List.take_append_of_le_length (by omega)]
        exact ht.early j h k hk
      · obtain rfl : j = out.length := by omega
        rw [List.take_left]
        simp only [List.getElem_append_right (Nat.le_refl _), Nat.sub_self, List.getElem_cons_zero, insOf, Int.toNat_natCast, List.getElem?_eq_getElem hlt.1, Option.map_some, Option.getD_some] at hk
        exact hr.2 k hk
    · rcases List.mem_append.1 hx with hx | hx
      · exact ht.pos x hx
      · rw [List.mem_singleton.1 hx]; omega
  induction N with
  | zero =>
    intro out hN ht h1
    cases hf : (List.range ns.length).find? (ready ns out) with
    | none => rw [order_stop hf]; exact ht
    | some i => have := free_lt (ready_lt (List.find?_some hf)).1 (ready_lt (List.find?_some hf)).2; omega
  | succ N ih =>
    intro out hN ht h1
    cases hf : (List.range ns.length).find? (ready ns out) with
    | none => rw [order_stop hf]; exact ht
    | some i =>
      have hr := ready_lt (List.find?_some hf)
      have := free_lt hr.1 hr.2
      rw [order_step hf]
      refine ih _ (by omega) (step out i hf ht) (fun k hk => ?_)
      rcases List.mem_append.1 hk with hk | hk
      · exact h1 k hk
      · simp at hk; omega
theorem order_topo (ns : List Node) : Topo (insOf ns) (order ns) := orderGo_topo _ [] (Nat.le_refl _) ⟨List.nodup_nil, by simp, by simp⟩ (by simp)
theorem nodup_len : ∀ (l m : List Int), l.Nodup → (∀ x ∈ l, x ∈ m) → l.length ≤ m.length
  | [], _, _, _ => Nat.zero_le _
  | x :: l, m, hn, hs => by
    obtain ⟨h1, h2⟩ := List.nodup_cons.1 hn
    have hx := hs x (List.mem_cons_self ..)
    have := nodup_len l (m.erase x) h2 (fun y hy => (List.mem_erase_of_ne (fun (e : y = x) => h1 (e ▸ hy))).2 (hs y (List.mem_cons_of_mem _ hy)))
    rw [List.length_erase_of_mem hx] at this
    have := List.length_pos_of_mem hx
    rw [List.length_cons]; omega
/-- Where none is left out, each is there. -/
theorem order_all {ns : List Node} (h : ns.length ≤ (order ns).length) (i : Nat) (hi : i < ns.length) : (i : Int) ∈ order ns := by
  refine Decidable.byContradiction fun hni => ?_
  have hn := (order_topo ns).nodup
  have hm := order_mem ns
  have := nodup_len ((i : Int) :: order ns) ((List.range ns.length).map (fun i : Nat => (i : Int))) (List.nodup_cons.2 ⟨hni, hn⟩) (fun k hk => by
    rcases List.mem_cons.1 hk with rfl | hk
    · exact List.mem_map.2 ⟨i, List.mem_range.2 hi, rfl⟩
    · have := hm.1 k hk
      exact List.mem_map.2 ⟨k.toNat, List.mem_range.2 (by omega), by omega⟩)
  rw [List.length_map, List.length_range, List.length_cons] at this
  omega
end Go.Proofs.YtkffjbijamfnoaaGreat
