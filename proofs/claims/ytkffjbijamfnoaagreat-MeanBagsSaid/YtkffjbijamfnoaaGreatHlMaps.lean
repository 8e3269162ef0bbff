/-
  Maps from structs to ints that a call makes, fills and ranges over.
-/
import Derived.Test.YtkffjbijamfnoaaGreatHlMore
import Derived.Maps.RangeRun
set_option linter.unusedVariables false
set_option linter.unusedSimpArgs false
namespace Go.Proofs.YtkffjbijamfnoaaGreat
open Go.RowKit Go.ChangeMaps
/-- A key's type. -/
structure KeyF {κ : Type} [DecidableEq κ] (P : Program) (kt : TypeId) (ek : κ → List Value) : Prop where
  eq : ∀ (x y : κ) (w : World), (Op.equalIn 10000 kt (.agg (ek x).toArray) (.agg (ek y).toArray)).run P w = .ok (decide (x = y)) w
  chk : ∀ (e : Bool) (x : κ) (w : World), (Instr.checkKey e 10000 kt (.agg (ek x).toArray)).run P w = .ok () w
  kd : ∃ d, P.underlying kt = some d
  same : ∀ x, Instr.sameBits 10000 (.agg (ek x).toArray) (.agg (ek x).toArray) = true
section
variable {κ : Type} [DecidableEq κ]
def mEnt (ek : κ → List Value) (M : List (κ × Int)) (s : Nat) : List MapEntry := (M.zipIdx s).map (fun p => ⟨.agg (ek p.1.1).toArray, .int .i64 p.1.2, p.2⟩)
def mObj (ek : κ → List Value) (M : List (κ × Int)) : Obj := .map (mEnt ek M 0).toArray M.length
def kFind (k : κ) (M : List (κ × Int)) : Option Nat := M.findIdx? (fun p => decide (k = p.1))
def valAt (M : List (κ × Int)) (j : Nat) : Int := ((M[j]?).map (·.2)).getD 0
def mGet (k : κ) (M : List (κ × Int)) : Int := match kFind k M with
  | some j => valAt M j
  | none => 0
def mPut (k : κ) (v : Int) (M : List (κ × Int)) : List (κ × Int) := match kFind k M with
  | some j => M.set j (k, v)
  | none => M ++ [(k, v)]
/-- Behind the look for an entry. -/
def mSlot (k : κ) (M : List (κ × Int)) : List (κ × Int) := match kFind k M with
  | some _ => M
  | none => M ++ [(k, 0)]
theorem mEnt_cons {β : Type} (ek : β → List Value) (p : β × Int) (M : List (β × Int)) (s : Nat) : mEnt ek (p :: M) s = ⟨.agg (ek p.1).toArray, .int .i64 p.2, s⟩ :: mEnt ek M (s + 1) := by simp [mEnt, List.zipIdx_cons]
theorem mEnt_len {β : Type} (ek : β → List Value) (M : List (β × Int)) (s : Nat) : (mEnt ek M s).length = M.length := by simp [mEnt]
theorem mEnt_get {β : Type} (ek : β → List Value) (M : List (β × Int)) (s j : Nat) (hj : j < M.length) : (mEnt ek M s)[j]? = some ⟨.agg (ek M[j].1).toArray, .int .i64 M[j].2, s + j⟩ := by
  simp [mEnt, List.getElem?_zipIdx, List.getElem?_eq_getElem hj]
theorem mEnt_getE {β : Type} (ek : β → List Value) (M : List (β × Int)) (s j : Nat) (hj : j < M.length) (h : j < (mEnt ek M s).length) : (mEnt ek M s)[j] = ⟨.agg (ek M[j].1).toArray, .int .i64 M[j].2, s + j⟩ := by
  have := mEnt_get ek M s j hj
  rw [List.getElem?_eq_getElem h] at this
  exact Option.some.inj this
theorem mEnt_snoc {β : Type} (ek : β → List Value) (M : List (β × Int)) (p : β × Int) : mEnt ek (M ++ [p]) 0 = mEnt ek M 0 ++ [⟨.agg (ek p.1).toArray, .int .i64 p.2, M.length⟩] := by
  simp [mEnt, List.zipIdx_append]
theorem mEnt_set {β : Type} (ek : β → List Value) (M : List (β × Int)) (s j : Nat) (p : β × Int) (hj : j < M.length) : mEnt ek (M.set j p) s = (mEnt ek M s).set j ⟨.agg (ek p.1).toArray, .int .i64 p.2, s + j⟩ := by
  apply List.ext_getElem?
  intro i
  by_cases hi : i < M.length
  · rw [mEnt_get ek _ s i (by simpa using hi)]
    by_cases e : j = i
    · subst e
      rw [List.getElem?_set_self (by rw [mEnt_len]; exact hj)]
      simp
    · rw [List.getElem?_set_ne e, mEnt_get ek M s i hi]
      simp [List.getElem_set_ne e]
  · rw [List.getElem?_eq_none (by rw [mEnt_len, List.length_set]; omega), List.getElem?_eq_none (by rw [List.length_set, mEnt_len]; omega)]
theorem kFind_lt {k : κ} {M : List (κ × Int)} {j : Nat} (h : kFind k M = some j) : ∃ hj : j < M.length, M[j].1 = k := by
  unfold kFind at h
  obtain ⟨hj, h1, _⟩ := List.findIdx?_eq_some_iff_getElem.1 h
  exact ⟨hj, by simpa using (of_decide_eq_true h1).symm⟩
theorem mPut_slot {k : κ} {v : Int} {M : List (κ × Int)} : (mSlot k M).set ((kFind k M).getD M.length) (k, v) = mPut k v M := by
  unfold mSlot mPut
  cases h : kFind k M with
  | some j => rfl
  | none => simp
theorem mGet_slot {k : κ} {M : List (κ × Int)} : mGet k (mSlot k M) = mGet k M := by
  unfold mSlot
  cases h : kFind k M with
  | some j => rfl
  | none =>
    have h1 : kFind k (M ++ [(k, 0)]) = some M.length := by
      unfold kFind at h ⊢
      rw [List.findIdx?_append, h]; simp
    unfold mGet
    rw [h1, h]
    simp [valAt]
theorem mSlot_len {k : κ} {M : List (κ × Int)} : (kFind k M).getD M.length < (mSlot k M).length := by
  unfold mSlot
  cases h : kFind k M with
  | some j => exact (kFind_lt h).1
  | none => simp
theorem mSlot_key {k : κ} {M : List (κ × Int)} : ((mSlot k M)[(kFind k M).getD M.length]'mSlot_len).1 = k := by
  have key : ((mSlot k M)[(kFind k M).getD M.length]?).map (·.1) = some k := by
    cases h : kFind k M with
    | some j =>
      obtain ⟨hj, hk⟩ := kFind_lt h
      simp [mSlot, h, hj, hk]
    | none => simp [mSlot, h]
  rw [List.getElem?_eq_getElem mSlot_len] at key
  simpa using key
variable {P : Program} {kt : TypeId} {ek : κ → List Value}
theorem run_findAsking (K : KeyF P kt ek) (k : κ) (w : World) : ∀ (M : List (κ × Int)) (s i : Nat), (Instr.findAsking kt (.agg (ek k).toArray) (mEnt ek M s) i).run P w = .ok ((kFind k M).map (fun j => (i + j, Value.int .i64 (valAt M j)))) w
  | [], s, i => by simp [mEnt, Instr.findAsking, kFind]
  | p :: M, s, i => by
    rw [mEnt_cons]
    have he : (Op.equal kt (.agg (ek k).toArray) (.agg (ek p.1).toArray)).run P w = .ok (decide (k = p.1)) w := K.eq k p.1 w
    simp only [Instr.findAsking, Sem.run_bind, he, Result.andThen_ok]
    by_cases h : k = p.1
    · simp only [decide_eq_true h, if_true]
      simp [kFind, List.findIdx?_cons, h, valAt]
    · simp only [decide_eq_false h, Bool.false_eq_true, if_false]
      rw [run_findAsking K k w M (s + 1) (i + 1)]
      unfold kFind
      rw [List.findIdx?_cons]
      simp only [decide_eq_false h, Bool.false_eq_true, if_false]
      cases M.findIdx? (fun p => decide (k = p.1)) with
      | none => rfl
      | some j => simp [valAt]; omega
theorem run_findKey (K : KeyF P kt ek) (k : κ) (w : World) (M : List (κ × Int)) : (Instr.findKey kt (.agg (ek k).toArray) (mEnt ek M 0)).run P w = .ok ((kFind k M).map (fun j => (j, Value.int .i64 (valAt M j)))) w := by
  obtain ⟨d, hd⟩ := K.kd
  unfold Instr.findKey
  simp only [Sem.run_bind, run_underlying hd, Result.andThen_ok]
  cases M with
  | nil => simp [mEnt, Instr.findNow, kFind]
  | cons p M =>
    have h0 : Instr.findNow d (.agg (ek k).toArray) (mEnt ek (p :: M) 0) 0 = none := by
      rw [mEnt_cons]
      unfold Instr.findNow
      have : Instr.sameNow d (.agg (ek k).toArray) (.agg (ek p.1).toArray) = none := by cases d <;> rfl
      rw [this]
    rw [h0]
    have := run_findAsking K k w (p :: M) 0 0
    simp only [Nat.zero_add] at this
    exact this
theorem run_lookup {t et b : Nat} (K : KeyF P kt ek) (ht : P.underlying t = some (.map kt et)) (hz : ∀ w, (zeroValue et).run P w = .ok (.int .i64 0) w) (k : κ) (M : List (κ × Int)) {w : World} (hb : w.heap[b]? = some (mObj ek M)) (ok : Bool) :
    (Instr.lookup t (.map (some b)) (.agg (ek k).toArray) ok).run P w = .ok (if ok then .tuple #[.int .i64 (mGet k M), .bool (kFind k M).isSome] else .int .i64 (mGet k M)) w := by
  unfold mObj at hb
  unfold Instr.lookup
  simp only [Sem.run_bind, run_underlying ht, Result.andThen_ok, MapKept.run_getObj_map hb, K.chk]
  have hf := run_findKey K k w M
  simp only [Sem.run_pure, Result.andThen_ok, hf]
  unfold mGet
  cases h : kFind k M with
  | some j => simp
  | none => simp [hz w]
theorem setBlock_at (w : World) (b : Nat) (o : Obj) (hb : b < w.heap.size) : (setBlock w b o).heap[b]? = some o := by simp [setBlock, hb]
theorem run_setObj_map {w : World} {b : Nat} {es : Array MapEntry} {c : Nat} (hb : w.heap[b]? = some (.map es c)) (o' : Obj) : (setObj b o').run P w = .ok () (setBlock w b o') := by
  simp [setObj, Sem.run, hb, setBlock]
theorem modify_same (es : List MapEntry) (j : Nat) (key : Value) (h : ∀ e, es[j]? = some e → e.key = key) : (es.toArray.modify j fun e => { e with key }) = es.toArray := by
  apply Array.ext_getElem?
  intro i
  rw [Array.getElem?_modify]
  split
  · rename_i e
    subst e
    cases hj : es.toArray[j]? with
    | none => simp
    | some e =>
      have := h e (by simpa using hj)
      simp [← this]
  · rfl
theorem run_mapEntry {t et b : Nat} (K : KeyF P kt ek) (ht : P.underlying t = some (.map kt et)) (hz : ∀ w, (zeroValue et).run P w = .ok (.int .i64 0) w) (k : κ) (M : List (κ × Int)) {w : World} (hb : w.heap[b]? = some (mObj ek M)) :
    (Instr.mapEntry t (.map (some b)) (.agg (ek k).toArray)).run P w = .ok (.tuple #[.int .i64 (mGet k M), .int .i64 (((kFind k M).getD M.length : Nat) : Int)]) (setBlock w b (mObj ek (mSlot k M))) := by
  unfold mObj at hb
  unfold Instr.mapEntry
  simp only [Sem.run_bind, run_underlying ht, Result.andThen_ok, MapKept.run_getObj_map hb, K.chk]
  have hf := run_findKey K k w M
  simp only [hf, Result.andThen_ok]
  unfold mGet mSlot
  cases h : kFind k M with
  | some j =>
    obtain ⟨hj, hk⟩ := kFind_lt h
    have hg := mEnt_get ek M 0 j hj
    simp only [Option.map_some, Option.getD_some]
    have hkk : (((mEnt ek M 0).toArray[j]?).map (·.key)).getD (.agg (ek k).toArray) = .agg (ek k).toArray := by simp [hg, hk]
    rw [hkk]
    unfold Instr.keyThatStays
    rw [K.same k]
    simp only [if_true, Sem.run_bind, Sem.run_pure, Result.andThen_ok]
    rw [modify_same _ _ _ (fun e he => by rw [hg] at he; cases he; rw [hk])]
    rw [run_setObj_map hb]
    simp [mObj, hg, goInt]
  | none =>
    simp only [Option.map_none, Option.getD_none, Sem.run_bind, hz w, Result.andThen_ok]
    rw [run_setObj_map hb]
    simp [mObj, mEnt_snoc, goInt]
theorem born_find {β : Type} (ek : β → List Value) : ∀ (M : List (β × Int)) (s j : Nat), j < M.length → (mEnt ek M s).findIdx? (fun e => ((e.born : Int) == ((s + j : Nat) : Int))) = some j
  | [], _, _, h => by simp at h
  | p :: M, s, 0, _ => by simp [mEnt_cons, List.findIdx?_cons]
  | p :: M, s, j + 1, h => by
    rw [mEnt_cons, List.findIdx?_cons]
    have h1 : ((s : Int) == ((s + (j + 1) : Nat) : Int)) = false := by simp; omega
    simp only [h1, Bool.false_eq_true, if_false]
    have := born_find ek M (s + 1) j (by simpa using h)
    rw [show s + 1 + j = s + (j + 1) by omega] at this
    rw [this]; rfl
theorem run_entryStore {β : Type} {ek : β → List Value} {t b j : Nat} (k : β) (v : Int) (M : List (β × Int)) (hj : j < M.length) (hk : M[j].1 = k) {w : World} (hb : w.heap[b]? = some (mObj ek M)) :
    (Instr.entryStore t (.map (some b)) (.int .i64 (j : Int)) (.int .i64 v)).run P w = .ok () (setBlock w b (mObj ek (M.set j (k, v)))) := by
  unfold mObj at hb
  unfold Instr.entryStore
  simp only [Sem.run_bind, MapKept.run_getObj_map hb, Result.andThen_ok, asInt, asIntOf, Sem.run_pure]
  have hf := born_find ek M 0 j hj
  rw [Nat.zero_add] at hf
  have hf' : (mEnt ek M 0).toArray.findIdx? (fun e => ((e.born : Int) == (j : Int))) = some j := by simpa using hf
  rw [hf']
  dsimp only
  rw [run_setObj_map hb]
  congr 2
  unfold mObj
  rw [mEnt_set ek M 0 j (k, v) hj, List.length_set]
  congr 1
  apply Array.ext_getElem?
  intro i
  rw [Array.getElem?_modify]
  have hg := mEnt_get ek M 0 j hj
  by_cases e : j = i
  · subst e
    rw [if_pos rfl]
    simp [mEnt_getE ek M 0 j hj, hk, mEnt_len, hj]
  · rw [if_neg e]
    simp [List.getElem?_set_ne e]
theorem run_mapUpdate {t et b : Nat} (K : KeyF P kt ek) (ht : P.underlying t = some (.map kt et)) (k : κ) (v : Int) (M : List (κ × Int)) {w : World} (hb : w.heap[b]? = some (mObj ek M)) :
    (Instr.mapUpdate t (.map (some b)) (.agg (ek k).toArray) (.int .i64 v)).run P w = .ok () (setBlock w b (mObj ek (mPut k v M))) := by
  unfold mObj at hb
  unfold Instr.mapUpdate
  simp only [Sem.run_bind, run_underlying ht, Result.andThen_ok, MapKept.run_getObj_map hb, K.chk]
  have hf := run_findKey K k w M
  simp only [hf, Result.andThen_ok]
  unfold mPut
  cases h : kFind k M with
  | some j =>
    obtain ⟨hj, hk⟩ := kFind_lt h
    have hg := mEnt_get ek M 0 j hj
    simp only [Option.map_some]
    have hkk : (((mEnt ek M 0).toArray[j]?).map (·.key)).getD (.agg (ek k).toArray) = .agg (ek k).toArray := by simp [hg, hk]
    rw [hkk]
    unfold Instr.keyThatStays
    rw [K.same k]
    simp only [if_true, Sem.run_bind, Sem.run_pure, Result.andThen_ok]
    rw [run_setObj_map hb]
    congr 2
    unfold mObj
    rw [mEnt_set ek M 0 j (k, v) hj, List.length_set]
    congr 1
    apply Array.ext_getElem?
    intro i
    rw [Array.getElem?_modify]
    by_cases e : j = i
    · subst e
      rw [if_pos rfl]
      simp [mEnt_getE ek M 0 j hj, mEnt_len, hj]
    · rw [if_neg e]
      simp [List.getElem?_set_ne e]
  | none =>
    simp only [Option.map_none]
    rw [run_setObj_map hb]
    simp [mObj, mEnt_snoc]
end
section
variable {w0 w : World} {m0 m : Nat → Prop} {L : List Blk} {R : World → Prop}
theorem St.setObj (h : St w0 m0 m L R w) (i : Nat) {b : Nat} {o : Obj} (hL : L[i]? = some (.obj b o)) (o' : Obj) : St w0 m0 m (L.set i (.obj b o')) R (setBlock w b o') := by
  have hb : w.heap[b]? = some o := h.get hL
  have hlt := (Array.getElem?_eq_some_iff.1 hb).1
  refine h.turn hL rfl rfl rfl (by simp [setBlock]) (fun k hk hne => ?_) (setBlock_at w b o' hlt) (.inl rfl)
  have : b ≠ k := fun e => hne (by rw [e]; rfl)
  simp [setBlock, Array.getElem?_setIfInBounds, this]
end
section
variable {κ : Type} [DecidableEq κ] {P : Program} {kt : TypeId} {ek : κ → List Value}
variable {ops : Array Oper} {Q : Exit → Act → World → Prop} {n : Nat} {F : Fr} {rest : List Oper} {d ty : Nat} {pos : String} {af : Array Edge}
variable {w0 : World} {m0 m : Nat → Prop} {L : List Blk} {R : World → Prop}
theorem Wl.mkmap {β : Type} (ek : β → List Value) {t : TypeId} (hn : Nat.blt d n = true) (h : ∀ b, Wl none P ops Q n rest ((d, .map (some b)) :: F) (St w0 m0 m (L ++ [.obj b (mObj ek [])]) R)) :
    Wl none P ops Q n ({ dst := some d, op := .makeMap t none, type := ty, pos := pos, after := af, guard := none } :: rest) F (St w0 m0 m L R) :=
  Wl.valw (G := Nat) (fun b => .map (some b)) (fun b => St w0 m0 m (L ++ [.obj b (mObj ek [])]) R) rfl rfl hn (fun ρ hρ w hw => ⟨w.heap.size, w.alloc (.map #[] 0), by simp [execOp, run_makeMap], hw.blk (.map #[] 0) (.obj w.heap.size (mObj ek [])) (heap_alloc_new w (.map #[] 0)) (fun k hk => by injection hk with hk; exact hk.symm)⟩) h
theorem Wl.look {md : Option (Bool × (Act → Prop))} {g : Option (Nat × Bool)} {t et b : Nat} {x y : Operand} {M : List (κ × Int)} {ok : Bool} (i : Nat) (K : KeyF P kt ek) (ht : P.underlying t = some (.map kt et)) {ag : Bool} {sz by_ : Nat} (hT : TyF P et ag (.int .i64 0) sz by_) (k : κ)
    (hx : F.ev x = some (.map (some b))) (hy : F.ev y = some (.agg (ek k).toArray)) (hn : Nat.blt d n = true) (hL : L[i]? = some (.obj b (mObj ek M)))
    (h : Wl md P ops Q n rest ((d, if ok then .tuple #[.int .i64 (mGet k M), .bool (kFind k M).isSome] else .int .i64 (mGet k M)) :: F) (St w0 m0 m L R)) (hg : wantedF ops F g = some true := by rfl) :
    Wl md P ops Q n ({ dst := some d, op := .lookup t x y ok, type := ty, pos := pos, after := af, guard := g } :: rest) F (St w0 m0 m L R) :=
  Wl.val _ rfl hn (fun ρ hρ w hw => by
    have := run_lookup (P := P) K ht (fun w => hT.zero w) k M (hw.get hL) ok
    simp [execOp, hρ _ _ hx, hρ _ _ hy, this]) h hg
theorem Wl.lookR {md : Option (Bool × (Act → Prop))} {H : World → Prop} {g : Option (Nat × Bool)} {t et b : Nat} {x y : Operand} {M : List (κ × Int)} {ok : Bool} (K : KeyF P kt ek) (ht : P.underlying t = some (.map kt et)) {ag : Bool} {sz by_ : Nat} (hT : TyF P et ag (.int .i64 0) sz by_) (k : κ)
    (hx : F.ev x = some (.map (some b))) (hy : F.ev y = some (.agg (ek k).toArray)) (hn : Nat.blt d n = true) (hR : ∀ w, H w → w.heap[b]? = some (mObj ek M))
    (h : Wl md P ops Q n rest ((d, if ok then .tuple #[.int .i64 (mGet k M), .bool (kFind k M).isSome] else .int .i64 (mGet k M)) :: F) H) (hg : wantedF ops F g = some true := by rfl) :
    Wl md P ops Q n ({ dst := some d, op := .lookup t x y ok, type := ty, pos := pos, after := af, guard := g } :: rest) F H :=
  Wl.val _ rfl hn (fun ρ hρ w hw => by
    have := run_lookup (P := P) K ht (fun w => hT.zero w) k M (hR w hw) ok
    simp [execOp, hρ _ _ hx, hρ _ _ hy, this]) h hg
theorem Wl.mapEntry {t et b : Nat} {x y : Operand} {M : List (κ × Int)} (i : Nat) (K : KeyF P kt ek) (ht : P.underlying t = some (.map kt et)) {ag : Bool} {sz by_ : Nat} (hT : TyF P et ag (.int .i64 0) sz by_) (k : κ)
    (hx : F.ev x = some (.map (some b))) (hy : F.ev y = some (.agg (ek k).toArray)) (hn : Nat.blt d n = true) (hL : L[i]? = some (.obj b (mObj ek M)))
    (h : Wl none P ops Q n rest ((d, .tuple #[.int .i64 (mGet k M), .int .i64 (((kFind k M).getD M.length : Nat) : Int)]) :: F) (St w0 m0 m (L.set i (.obj b (mObj ek (mSlot k M)))) R)) :
    Wl none P ops Q n ({ dst := some d, op := .mapEntry t x y, type := ty, pos := pos, after := af, guard := none } :: rest) F (St w0 m0 m L R) :=
  Wl.valw (G := Unit) (fun _ => .tuple #[.int .i64 (mGet k M), .int .i64 (((kFind k M).getD M.length : Nat) : Int)]) (fun _ => St w0 m0 m (L.set i (.obj b (mObj ek (mSlot k M)))) R) rfl rfl hn (fun ρ hρ w hw => ⟨(), _, by
    have := run_mapEntry (P := P) K ht (fun w => hT.zero w) k M (hw.get hL)
    simp only [execOp, hρ _ _ hx, hρ _ _ hy, Sem.run_bind, this]
    rfl, hw.setObj i hL _⟩) (fun _ => h)
theorem Wl.entryStore {t b : Nat} {x y z : Operand} {M : List (κ × Int)} {v : Int} (i : Nat) (k : κ) (hx : F.ev x = some (.map (some b))) (hy : F.ev y = some (.int .i64 (((kFind k M).getD M.length : Nat) : Int))) (hz : F.ev z = some (.int .i64 v)) (hL : L[i]? = some (.obj b (mObj ek (mSlot k M))))
    (h : Wl none P ops Q n rest F (St w0 m0 m (L.set i (.obj b (mObj ek (mPut k v M)))) R)) :
    Wl none P ops Q n ({ dst := none, op := .entryStore t x y z, type := ty, pos := pos, after := af, guard := none } :: rest) F (St w0 m0 m L R) :=
  Wl.act (G := Unit) (fun _ => St w0 m0 m (L.set i (.obj b (mObj ek (mPut k v M)))) R) rfl rfl (fun ρ hρ w hw => ⟨(), _, by
    have hlt := mSlot_len (k := k) (M := M)
    have hkey := mSlot_key (k := k) (M := M)
    have := run_entryStore (P := P) (t := t) (ek := ek) k v (mSlot k M) hlt hkey (hw.get hL)
    rw [mPut_slot] at this
    simp [execOp, hρ _ _ hx, hρ _ _ hy, hρ _ _ hz, this], hw.setObj i hL _⟩) (fun _ => h)
theorem Wl.mapUpdate {t et b : Nat} {x y z : Operand} {M : List (κ × Int)} {v : Int} (i : Nat) (K : KeyF P kt ek) (ht : P.underlying t = some (.map kt et)) (k : κ) (hx : F.ev x = some (.map (some b))) (hy : F.ev y = some (.agg (ek k).toArray)) (hz : F.ev z = some (.int .i64 v)) (hL : L[i]? = some (.obj b (mObj ek M)))
    (h : Wl none P ops Q n rest F (St w0 m0 m (L.set i (.obj b (mObj ek (mPut k v M)))) R)) :
    Wl none P ops Q n ({ dst := none, op := .mapUpdate t x y z, type := ty, pos := pos, after := af, guard := none } :: rest) F (St w0 m0 m L R) :=
  Wl.act (G := Unit) (fun _ => St w0 m0 m (L.set i (.obj b (mObj ek (mPut k v M)))) R) rfl rfl (fun ρ hρ w hw => ⟨(), _, by
    have := run_mapUpdate (P := P) K ht k v M (hw.get hL)
    simp [execOp, hρ _ _ hx, hρ _ _ hy, hρ _ _ hz, this], hw.setObj i hL _⟩) (fun _ => h)
/-! ### ranges -/
def itObj (b n : Nat) (seen : List Nat) : Obj := .mapIter (some b) n seen.toArray n
theorem Wl.rng {β : Type} {ek : β → List Value} {t et b : Nat} {x : Operand} {M : List (β × Int)} (ht : P.underlying t = some (.map kt et)) (hx : F.ev x = some (.map (some b))) (hn : Nat.blt d n = true) (hR : ∀ w, St w0 m0 m L R w → w.heap[b]? = some (mObj ek M))
    (h : ∀ it, Wl none P ops Q n rest ((d, .pointer (some ⟨it, 0, none⟩)) :: F) (St w0 m0 m (L ++ [.obj it (itObj b M.length [])]) R)) :
    Wl none P ops Q n ({ dst := some d, op := .range t x, type := ty, pos := pos, after := af, guard := none } :: rest) F (St w0 m0 m L R) :=
  Wl.valw (G := Nat) (fun it => .pointer (some ⟨it, 0, none⟩)) (fun it => St w0 m0 m (L ++ [.obj it (itObj b M.length [])]) R) rfl rfl hn (fun ρ hρ w hw => ⟨w.heap.size, w.alloc (itObj b M.length []), by
    have hb := hR w hw
    unfold mObj at hb
    simp only [execOp, Instr.range, hρ _ _ hx, run_underlying ht, getObj, Sem.run_bind, Sem.run, hb, Result.andThen_ok, Result.andThen]
    rfl, hw.blk (itObj b M.length []) (.obj w.heap.size (itObj b M.length [])) (heap_alloc_new w (itObj b M.length [])) (fun k hk => by injection hk with hk; exact hk.symm)⟩) h
def nextVals (ek : κ → List Value) (M : List (κ × Int)) : Option Nat → List Value
  | none => [.bool false]
  | some i => [.bool true, (((mEnt ek M 0)[i]?).map (·.key)).getD undef, .int .i64 (valAt M i)]
/-- What a step tells: nothing is left, or one that was not told yet. -/
def NextP (M : List (κ × Int)) (seen : List Nat) : Option Nat → Prop
  | none => ∀ i, i < M.length → i ∈ seen
  | some i => i < M.length ∧ i ∉ seen
theorem Wl.next {β : Type} {ek : β → List Value} {b it : Nat} {x : Operand} {M : List (β × Int)} {seen : List Nat} (i : Nat) (hx : F.ev x = some (.pointer (some ⟨it, 0, none⟩))) (hn : Nat.blt d n = true) (hL : L[i]? = some (.obj it (itObj b M.length seen))) (hR : ∀ w, St w0 m0 m L R w → w.heap[b]? = some (mObj ek M))
    (h : ∀ g, NextP M seen g → Wl none P ops Q n rest ((d, .tuple (nextVals ek M g).toArray) :: F) (St w0 m0 m (L.set i (.obj it (itObj b M.length (seen ++ g.toList)))) R)) :
    Wl none P ops Q n ({ dst := some d, op := .next x false, type := ty, pos := pos, after := af, guard := none } :: rest) F (St w0 m0 m L R) := by
  refine Wl.valw (G := Option Nat) (fun g => .tuple (nextVals ek M g).toArray) (fun g w => NextP M seen g ∧ St w0 m0 m (L.set i (.obj it (itObj b M.length (seen ++ g.toList)))) R w) rfl rfl hn (fun ρ hρ w hw => ?_) (fun g a w ho hw => h g hw.1 a w ho hw.2)
  have hit : w.heap[it]? = some (.mapIter (some b) M.length seen.toArray M.length) := hw.get hL
  have hb : w.heap[b]? = some (.map (mEnt ek M 0).toArray M.length) := hR w hw
  have hold : ∀ e ∈ (mEnt ek M 0).toArray.toList, e.born < M.length := fun e he => by
    obtain ⟨j, hj, rfl⟩ := List.getElem_of_mem (by simpa using he : e ∈ mEnt ek M 0)
    rw [mEnt_len] at hj
    have := mEnt_get ek M 0 j hj
    rw [List.getElem?_eq_getElem (by rw [mEnt_len]; exact hj)] at this
    injection this with this
    rw [this]; simpa using hj
  have hleft : ∀ e, e ∈ (leftOf (mEnt ek M 0).toArray seen.toArray).toList ↔ ∃ j, ∃ hj : j < M.length, j ∉ seen ∧ e = ⟨.agg (ek M[j].1).toArray, .int .i64 M[j].2, j⟩ := fun e => by
    unfold leftOf
    simp only [Array.toList_filter, List.mem_filter]
    constructor
    · rintro ⟨h1, h2⟩
      obtain ⟨j, hj, rfl⟩ := List.getElem_of_mem (by simpa using h1 : e ∈ mEnt ek M 0)
      rw [mEnt_len] at hj
      have hg := mEnt_get ek M 0 j hj
      rw [List.getElem?_eq_getElem (by rw [mEnt_len]; exact hj)] at hg
      injection hg with hg
      rw [hg] at h2 ⊢
      refine ⟨j, hj, ?_, by simp⟩
      simpa using h2
    · rintro ⟨j, hj, hs, rfl⟩
      have hg := mEnt_get ek M 0 j hj
      refine ⟨?_, by simpa using hs⟩
      have := List.mem_of_getElem? hg
      simpa using this
  have hrun := run_next_at (P := P) w ty it b M.length M.length seen.toArray (mEnt ek M 0).toArray M.length hit hb hold (Nat.le_refl _)
  rcases hrun with ⟨h0, hr⟩ | ⟨e, he, w1, hw1, hr⟩
  · refine ⟨none, w, by simp [execOp, hρ _ _ hx, hr, nextVals], fun j hj => ?_, ?_⟩
    · refine Decidable.byContradiction fun hs => ?_
      have hm := (hleft _).2 ⟨j, hj, hs, rfl⟩
      have : (leftOf (mEnt ek M 0).toArray seen.toArray).toList = [] := List.eq_nil_of_length_eq_zero (by simpa using h0)
      rw [this] at hm
      cases hm
    · have : L.set i (.obj it (itObj b M.length (seen ++ (none : Option Nat).toList))) = L := by
        simp only [Option.toList_none, List.append_nil]
        apply List.ext_getElem?
        intro j
        by_cases ej : i = j
        · subst ej
          rw [List.getElem?_set_self (List.getElem?_eq_some_iff.1 hL).1, hL]
        · rw [List.getElem?_set_ne ej]
      rw [this]
      exact hw
  · obtain ⟨j, hj, hs, rfl⟩ := (hleft e).1 he
    have hg := mEnt_get ek M 0 j hj
    have hw1' : St w0 m0 m L R w1 := by
      rcases hw1 with rfl | rfl
      · exact hw
      · exact hw.drewN 1
    refine ⟨some j, setBlock w1 it (.mapIter (some b) M.length (seen.toArray.push j) M.length), ?_, ⟨hj, hs⟩, ?_⟩
    · simp only [execOp, hρ _ _ hx, Sem.run_bind, hr, Result.andThen_ok]
      simp [nextVals, hg, valAt, List.getElem?_eq_getElem hj]
    · have := hw1'.setObj i hL (itObj b M.length (seen ++ [j]))
      simpa [itObj] using this
theorem Wl.entry {β : Type} {ek : β → List Value} {md : Option (Bool × (Act → Prop))} {b it j : Nat} {x : Operand} {M : List (β × Int)} {seen : List Nat} (i : Nat) (hx : F.ev x = some (.pointer (some ⟨it, 0, none⟩))) (hn : Nat.blt d n = true) (hL : L[i]? = some (.obj it (itObj b M.length (seen ++ [j])))) (hj : j < M.length) (hR : ∀ w, St w0 m0 m L R w → w.heap[b]? = some (mObj ek M))
    (h : Wl md P ops Q n rest ((d, .tuple #[.agg (ek M[j].1).toArray, .int .i64 M[j].2]) :: F) (St w0 m0 m L R)) (hg : wantedF ops F none = some true := by rfl) :
    Wl md P ops Q n ({ dst := some d, op := .entry x, type := ty, pos := pos, after := af, guard := none } :: rest) F (St w0 m0 m L R) :=
  Wl.val _ rfl hn (fun ρ hρ w hw => by
    have hit : w.heap[it]? = some (.mapIter (some b) M.length (seen ++ [j]).toArray M.length) := hw.get hL
    have hb : w.heap[b]? = some (.map (mEnt ek M 0).toArray M.length) := hR w hw
    have hg := mEnt_get ek M 0 j hj
    have hit' : w.heap[it]? = some (.mapIter (some b) M.length (seen.toArray.push j) M.length) := by rw [hit]; simp
    have hnd : ((mEnt ek M 0).toArray.toList.map (·.born)).Nodup := by
      have e : (mEnt ek M 0).toArray.toList.map (·.born) = List.range M.length := by
        apply List.ext_getElem (by simp [mEnt_len])
        intro q h1 h2
        have hq : q < M.length := by simpa using h2
        have := mEnt_get ek M 0 q hq
        rw [List.getElem?_eq_getElem (by rw [mEnt_len]; exact hq)] at this
        injection this with this
        simp [this]
      rw [e]; exact List.nodup_range
    have := run_entry_at (P := P) w it b M.length seen.toArray (mEnt ek M 0).toArray M.length ⟨.agg (ek M[j].1).toArray, .int .i64 M[j].2, j⟩ hit' hb (by have := List.mem_of_getElem? hg; simpa using this) hnd
    simp [execOp, hρ _ _ hx, this]) h hg
end
end Go.Proofs.YtkffjbijamfnoaaGreat
