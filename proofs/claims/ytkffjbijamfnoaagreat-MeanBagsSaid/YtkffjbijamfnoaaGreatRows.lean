/-
  NARROWER THAN 'FOR EVERY INPUT', by the rows' own cells (each row's printed sentence says how): TaskAgain: loops · MeanAll: loops · MeanCut: loops · MeanGrows: loops · MeanOrder: loops · MeanUnions: loops · MeanFilters: loops · MeanSums: loops · MeanParts: loops.
  DERIVED. THE GIVEN ROWS OF THIS SEAT. 11 by the template 'for every input the law returns true; each argument reads behind the call as it read before'; 0 by the template 'total and deterministic' (their statements: YtkffjbijamfnoaaGreatTotals.lean).
  GIVEN WITH THE SEED: the statements are not yours to turn. If you find one false, say at which input.
  Laid BY PROGRAM, IN A SANDBOX (cutbox-rows.mjs): the forced cells as the released guide's own fill.sh prints them over the translation de2661c527ed1849… (all of the seat's roots in one cut). By AI agents, Wed Nov 11 2026. No macro, syntax, notation, axiom, sorry.
-/
import Derived.Test.YtkffjbijamfnoaaGreatChecked
import GoSem.Claim
import GoSem.ClaimJoined
import GoSem.ClaimMapViews
import Derived.JoinedTies
import Derived.KernelRfl
namespace Go.Proofs.YtkffjbijamfnoaaGreat
/- THE CELL 'sum', in the pinned program and in every row, IS THE sha256 OF THE DUMP (.gsa) THAT YtkffjbijamfnoaaGreatProg.lean LOADS. Nothing in Lean hashes anything: it is a label: what it is worth is what the hold of that sum in a sandbox is worth. -/
noncomputable def Tryz.pinned : Pinned := { name := "ytkffjbijamfnoaagreat", sum := "de2661c527ed18492fd2ab5399b0abe2e041acea7741a01ef80c3e0679a4fe17", checked := Tryz.checked }
namespace Rows
def none {H : Type} : Left H := { results := [], args := [] }

/-- 'leatlaw16.TaskReads': WHATEVER THE INPUT: true; the input reads as it did. -/
def taskReadsSpec : ChangeSpec := { name := "taskReads", fn := fun _ => fun
  | [d1, d2, d3] => { results := [.lit (.bool true)], args := [d1, d2, d3] }
  | _ => none }
def taskReadsRow : OpenClaim := { program := "ytkffjbijamfnoaagreat", sum := "de2661c527ed18492fd2ab5399b0abe2e041acea7741a01ef80c3e0679a4fe17", func := "leat/leatlaw16.TaskReads", spec := "taskReads", unfollowed := true, recurses := true, plainKeys := false, apart := false }
def TaskReadsSaid : Prop := taskReadsRow.holds Tryz.pinned (OpenSpec.ofChange taskReadsSpec)

/-- ITS FALSE NEIGHBOUR: 'it returns false'. Refute it at one input. -/
def taskReadsWrong : ChangeSpec := { name := "taskReads", fn := fun _ => fun
  | [d1, d2, d3] => { results := [.lit (.bool false)], args := [d1, d2, d3] }
  | _ => none }
def TaskReadsWrongFalsely : Prop := taskReadsRow.holds Tryz.pinned (OpenSpec.ofChange taskReadsWrong)

/-- 'leatlaw16.TaskAgain': WHATEVER THE INPUT: true; the input reads as it did. -/
def taskAgainSpec : ChangeSpec := { name := "taskAgain", fn := fun _ => fun
  | [d1, d2, d3, d4] => { results := [.lit (.bool true)], args := [d1, d2, d3, d4] }
  | _ => none }
def taskAgainRow : OpenClaim := { program := "ytkffjbijamfnoaagreat", sum := "de2661c527ed18492fd2ab5399b0abe2e041acea7741a01ef80c3e0679a4fe17", func := "leat/leatlaw16.TaskAgain", spec := "taskAgain", unfollowed := true, recurses := true, loops := true, plainKeys := false, apart := false }
def TaskAgainSaid : Prop := taskAgainRow.holds Tryz.pinned (OpenSpec.ofChange taskAgainSpec)

/-- ITS FALSE NEIGHBOUR: 'it returns false'. Refute it at one input. -/
def taskAgainWrong : ChangeSpec := { name := "taskAgain", fn := fun _ => fun
  | [d1, d2, d3, d4] => { results := [.lit (.bool false)], args := [d1, d2, d3, d4] }
  | _ => none }
def TaskAgainWrongFalsely : Prop := taskAgainRow.holds Tryz.pinned (OpenSpec.ofChange taskAgainWrong)

/-- 'leatlaw14.MeanAll': WHATEVER THE INPUT: true; the input reads as it did. -/
def meanAllSpec : ChangeSpec := { name := "meanAll", fn := fun _ => fun
  | [d1, d2] => { results := [.lit (.bool true)], args := [d1, d2] }
  | _ => none }
def meanAllRow : OpenClaim := { program := "ytkffjbijamfnoaagreat", sum := "de2661c527ed18492fd2ab5399b0abe2e041acea7741a01ef80c3e0679a4fe17", func := "leat/leatlaw14.MeanAll", spec := "meanAll", unfollowed := true, recurses := true, loops := true, plainKeys := false, apart := false }
def MeanAllSaid : Prop := meanAllRow.holds Tryz.pinned (OpenSpec.ofChange meanAllSpec)

/-- ITS FALSE NEIGHBOUR: 'it returns false'. Refute it at one input. -/
def meanAllWrong : ChangeSpec := { name := "meanAll", fn := fun _ => fun
  | [d1, d2] => { results := [.lit (.bool false)], args := [d1, d2] }
  | _ => none }
def MeanAllWrongFalsely : Prop := meanAllRow.holds Tryz.pinned (OpenSpec.ofChange meanAllWrong)

/-- 'leatlaw14.MeanCut': WHATEVER THE INPUT: true; the input reads as it did. -/
def meanCutSpec : ChangeSpec := { name := "meanCut", fn := fun _ => fun
  | [d1, d2, d3] => { results := [.lit (.bool true)], args := [d1, d2, d3] }
  | _ => none }
def meanCutRow : OpenClaim := { program := "ytkffjbijamfnoaagreat", sum := "de2661c527ed18492fd2ab5399b0abe2e041acea7741a01ef80c3e0679a4fe17", func := "leat/leatlaw14.MeanCut", spec := "meanCut", unfollowed := true, recurses := true, loops := true, plainKeys := false, apart := false }
def MeanCutSaid : Prop := meanCutRow.holds Tryz.pinned (OpenSpec.ofChange meanCutSpec)

/-- ITS FALSE NEIGHBOUR: 'it returns false'. Refute it at one input. -/
def meanCutWrong : ChangeSpec := { name := "meanCut", fn := fun _ => fun
  | [d1, d2, d3] => { results := [.lit (.bool false)], args := [d1, d2, d3] }
  | _ => none }
def MeanCutWrongFalsely : Prop := meanCutRow.holds Tryz.pinned (OpenSpec.ofChange meanCutWrong)

/-- 'leatlaw14.MeanGrows': WHATEVER THE INPUT: true; the input reads as it did. -/
def meanGrowsSpec : ChangeSpec := { name := "meanGrows", fn := fun _ => fun
  | [d1, d2, d3, d4] => { results := [.lit (.bool true)], args := [d1, d2, d3, d4] }
  | _ => none }
def meanGrowsRow : OpenClaim := { program := "ytkffjbijamfnoaagreat", sum := "de2661c527ed18492fd2ab5399b0abe2e041acea7741a01ef80c3e0679a4fe17", func := "leat/leatlaw14.MeanGrows", spec := "meanGrows", unfollowed := true, recurses := true, loops := true, plainKeys := false, apart := false }
def MeanGrowsSaid : Prop := meanGrowsRow.holds Tryz.pinned (OpenSpec.ofChange meanGrowsSpec)

/-- ITS FALSE NEIGHBOUR: 'it returns false'. Refute it at one input. -/
def meanGrowsWrong : ChangeSpec := { name := "meanGrows", fn := fun _ => fun
  | [d1, d2, d3, d4] => { results := [.lit (.bool false)], args := [d1, d2, d3, d4] }
  | _ => none }
def MeanGrowsWrongFalsely : Prop := meanGrowsRow.holds Tryz.pinned (OpenSpec.ofChange meanGrowsWrong)

/-- 'leatlaw14.MeanOrder': WHATEVER THE INPUT: true; the input reads as it did. -/
def meanOrderSpec : ChangeSpec := { name := "meanOrder", fn := fun _ => fun
  | [d1, d2, d3] => { results := [.lit (.bool true)], args := [d1, d2, d3] }
  | _ => none }
def meanOrderRow : OpenClaim := { program := "ytkffjbijamfnoaagreat", sum := "de2661c527ed18492fd2ab5399b0abe2e041acea7741a01ef80c3e0679a4fe17", func := "leat/leatlaw14.MeanOrder", spec := "meanOrder", unfollowed := true, recurses := true, loops := true, plainKeys := false, apart := false }
def MeanOrderSaid : Prop := meanOrderRow.holds Tryz.pinned (OpenSpec.ofChange meanOrderSpec)

/-- ITS FALSE NEIGHBOUR: 'it returns false'. Refute it at one input. -/
def meanOrderWrong : ChangeSpec := { name := "meanOrder", fn := fun _ => fun
  | [d1, d2, d3] => { results := [.lit (.bool false)], args := [d1, d2, d3] }
  | _ => none }
def MeanOrderWrongFalsely : Prop := meanOrderRow.holds Tryz.pinned (OpenSpec.ofChange meanOrderWrong)

/-- 'leatlaw14.MeanBags': WHATEVER THE INPUT: true; the input reads as it did. -/
def meanBagsSpec : ChangeSpec := { name := "meanBags", fn := fun _ => fun
  | [d1, d2] => { results := [.lit (.bool true)], args := [d1, d2] }
  | _ => none }
def meanBagsRow : OpenClaim := { program := "ytkffjbijamfnoaagreat", sum := "de2661c527ed18492fd2ab5399b0abe2e041acea7741a01ef80c3e0679a4fe17", func := "leat/leatlaw14.MeanBags", spec := "meanBags", unfollowed := true, recurses := true, plainKeys := false, apart := false }
def MeanBagsSaid : Prop := meanBagsRow.holds Tryz.pinned (OpenSpec.ofChange meanBagsSpec)

/-- ITS FALSE NEIGHBOUR: 'it returns false'. Refute it at one input. -/
def meanBagsWrong : ChangeSpec := { name := "meanBags", fn := fun _ => fun
  | [d1, d2] => { results := [.lit (.bool false)], args := [d1, d2] }
  | _ => none }
def MeanBagsWrongFalsely : Prop := meanBagsRow.holds Tryz.pinned (OpenSpec.ofChange meanBagsWrong)

/-- 'leatlaw14.MeanUnions': WHATEVER THE INPUT: true; the input reads as it did. -/
def meanUnionsSpec : ChangeSpec := { name := "meanUnions", fn := fun _ => fun
  | [d1, d2, d3, d4, d5] => { results := [.lit (.bool true)], args := [d1, d2, d3, d4, d5] }
  | _ => none }
def meanUnionsRow : OpenClaim := { program := "ytkffjbijamfnoaagreat", sum := "de2661c527ed18492fd2ab5399b0abe2e041acea7741a01ef80c3e0679a4fe17", func := "leat/leatlaw14.MeanUnions", spec := "meanUnions", unfollowed := true, recurses := true, loops := true, plainKeys := false, apart := false }
def MeanUnionsSaid : Prop := meanUnionsRow.holds Tryz.pinned (OpenSpec.ofChange meanUnionsSpec)

/-- ITS FALSE NEIGHBOUR: 'it returns false'. Refute it at one input. -/
def meanUnionsWrong : ChangeSpec := { name := "meanUnions", fn := fun _ => fun
  | [d1, d2, d3, d4, d5] => { results := [.lit (.bool false)], args := [d1, d2, d3, d4, d5] }
  | _ => none }
def MeanUnionsWrongFalsely : Prop := meanUnionsRow.holds Tryz.pinned (OpenSpec.ofChange meanUnionsWrong)

/-- 'leatlaw14.MeanFilters': WHATEVER THE INPUT: true; the input reads as it did. -/
def meanFiltersSpec : ChangeSpec := { name := "meanFilters", fn := fun _ => fun
  | [d1, d2, d3, d4] => { results := [.lit (.bool true)], args := [d1, d2, d3, d4] }
  | _ => none }
def meanFiltersRow : OpenClaim := { program := "ytkffjbijamfnoaagreat", sum := "de2661c527ed18492fd2ab5399b0abe2e041acea7741a01ef80c3e0679a4fe17", func := "leat/leatlaw14.MeanFilters", spec := "meanFilters", unfollowed := true, recurses := true, loops := true, plainKeys := false, apart := false }
def MeanFiltersSaid : Prop := meanFiltersRow.holds Tryz.pinned (OpenSpec.ofChange meanFiltersSpec)

/-- ITS FALSE NEIGHBOUR: 'it returns false'. Refute it at one input. -/
def meanFiltersWrong : ChangeSpec := { name := "meanFilters", fn := fun _ => fun
  | [d1, d2, d3, d4] => { results := [.lit (.bool false)], args := [d1, d2, d3, d4] }
  | _ => none }
def MeanFiltersWrongFalsely : Prop := meanFiltersRow.holds Tryz.pinned (OpenSpec.ofChange meanFiltersWrong)

/-- 'leatlaw14.MeanSums': WHATEVER THE INPUT: true; the input reads as it did. -/
def meanSumsSpec : ChangeSpec := { name := "meanSums", fn := fun _ => fun
  | [d1, d2, d3, d4] => { results := [.lit (.bool true)], args := [d1, d2, d3, d4] }
  | _ => none }
def meanSumsRow : OpenClaim := { program := "ytkffjbijamfnoaagreat", sum := "de2661c527ed18492fd2ab5399b0abe2e041acea7741a01ef80c3e0679a4fe17", func := "leat/leatlaw14.MeanSums", spec := "meanSums", unfollowed := true, recurses := true, loops := true, plainKeys := false, apart := false }
def MeanSumsSaid : Prop := meanSumsRow.holds Tryz.pinned (OpenSpec.ofChange meanSumsSpec)

/-- ITS FALSE NEIGHBOUR: 'it returns false'. Refute it at one input. -/
def meanSumsWrong : ChangeSpec := { name := "meanSums", fn := fun _ => fun
  | [d1, d2, d3, d4] => { results := [.lit (.bool false)], args := [d1, d2, d3, d4] }
  | _ => none }
def MeanSumsWrongFalsely : Prop := meanSumsRow.holds Tryz.pinned (OpenSpec.ofChange meanSumsWrong)

/-- 'leatlaw14.MeanParts': WHATEVER THE INPUT: true; the input reads as it did. -/
def meanPartsSpec : ChangeSpec := { name := "meanParts", fn := fun _ => fun
  | [d1, d2, d3] => { results := [.lit (.bool true)], args := [d1, d2, d3] }
  | _ => none }
def meanPartsRow : OpenClaim := { program := "ytkffjbijamfnoaagreat", sum := "de2661c527ed18492fd2ab5399b0abe2e041acea7741a01ef80c3e0679a4fe17", func := "leat/leatlaw14.MeanParts", spec := "meanParts", unfollowed := true, recurses := true, loops := true, plainKeys := false, apart := false }
def MeanPartsSaid : Prop := meanPartsRow.holds Tryz.pinned (OpenSpec.ofChange meanPartsSpec)

/-- ITS FALSE NEIGHBOUR: 'it returns false'. Refute it at one input. -/
def meanPartsWrong : ChangeSpec := { name := "meanParts", fn := fun _ => fun
  | [d1, d2, d3] => { results := [.lit (.bool false)], args := [d1, d2, d3] }
  | _ => none }
def MeanPartsWrongFalsely : Prop := meanPartsRow.holds Tryz.pinned (OpenSpec.ofChange meanPartsWrong)

/- THE SECOND FORM. 'bulk': how many values and letters a reading holds, each counted each time it is reached (what is shared counts as often as it is met; a slice's spare places count too). A statement '..UptoSaid' is the law's where the arguments, and the package variables that the reading takes, are together of bulk at most 1048576: NARROWER than '..Said'. Prove '..Said' where nothing that the law and all that it calls make is longer than what came in: it says more and counts as full. Else prove '..UptoSaid'. A law counts once. -/
mutual
def uptoBulk {H : Type} : DataW H → Nat
  | .lit (.string bytes) => bytes.length + 1
  | .lit _ => 1
  | .nil => 1
  | .ptr d => uptoBulk d + 1
  | .slice elems spare => uptoBulkAll elems + uptoBulkAll spare + 1
  | .agg parts => uptoBulkAll parts + 1
  | .iface _ d => uptoBulk d + 1
  | .map entries => uptoBulkEntries entries + 1
  | .held _ => 1
def uptoBulkAll {H : Type} : List (DataW H) → Nat
  | [] => 0
  | d :: r => uptoBulk d + uptoBulkAll r
def uptoBulkEntries {H : Type} : List (Lit × DataW H) → Nat
  | [] => 0
  | x :: r => uptoBulkEntry x + uptoBulkEntries r
def uptoBulkEntry {H : Type} : Lit × DataW H → Nat
  | (.string bytes, d) => bytes.length + uptoBulk d + 1
  | (_, d) => uptoBulk d + 1
 end
def uptoSmall : (H : Type) → List (DataW H) → Bool := fun _ ds => decide (uptoBulkAll ds ≤ 1048576)
def OpenSpec.upto (s : _root_.Go.ChangeSpec) : _root_.Go.OpenSpec := { _root_.Go.OpenSpec.ofChange s with cond := some uptoSmall }

/-- 'leatlaw16.TaskReads', WHERE WHAT IT READS IS OF BULK AT MOST 1048576: true; the input reads as it did. -/
def taskReadsUptoRow : OpenClaim := { program := "ytkffjbijamfnoaagreat", sum := "de2661c527ed18492fd2ab5399b0abe2e041acea7741a01ef80c3e0679a4fe17", func := "leat/leatlaw16.TaskReads", spec := "taskReads", unfollowed := true, recurses := true, plainKeys := false, apart := false, narrowed := true }
def TaskReadsUptoSaid : Prop := taskReadsUptoRow.holds Tryz.pinned (OpenSpec.upto taskReadsSpec)

/-- 'leatlaw16.TaskAgain', WHERE WHAT IT READS IS OF BULK AT MOST 1048576: true; the input reads as it did. -/
def taskAgainUptoRow : OpenClaim := { program := "ytkffjbijamfnoaagreat", sum := "de2661c527ed18492fd2ab5399b0abe2e041acea7741a01ef80c3e0679a4fe17", func := "leat/leatlaw16.TaskAgain", spec := "taskAgain", unfollowed := true, recurses := true, loops := true, plainKeys := false, apart := false, narrowed := true }
def TaskAgainUptoSaid : Prop := taskAgainUptoRow.holds Tryz.pinned (OpenSpec.upto taskAgainSpec)

/-- 'leatlaw14.MeanAll', WHERE WHAT IT READS IS OF BULK AT MOST 1048576: true; the input reads as it did. -/
def meanAllUptoRow : OpenClaim := { program := "ytkffjbijamfnoaagreat", sum := "de2661c527ed18492fd2ab5399b0abe2e041acea7741a01ef80c3e0679a4fe17", func := "leat/leatlaw14.MeanAll", spec := "meanAll", unfollowed := true, recurses := true, loops := true, plainKeys := false, apart := false, narrowed := true }
def MeanAllUptoSaid : Prop := meanAllUptoRow.holds Tryz.pinned (OpenSpec.upto meanAllSpec)

/-- 'leatlaw14.MeanCut', WHERE WHAT IT READS IS OF BULK AT MOST 1048576: true; the input reads as it did. -/
def meanCutUptoRow : OpenClaim := { program := "ytkffjbijamfnoaagreat", sum := "de2661c527ed18492fd2ab5399b0abe2e041acea7741a01ef80c3e0679a4fe17", func := "leat/leatlaw14.MeanCut", spec := "meanCut", unfollowed := true, recurses := true, loops := true, plainKeys := false, apart := false, narrowed := true }
def MeanCutUptoSaid : Prop := meanCutUptoRow.holds Tryz.pinned (OpenSpec.upto meanCutSpec)

/-- 'leatlaw14.MeanGrows', WHERE WHAT IT READS IS OF BULK AT MOST 1048576: true; the input reads as it did. -/
def meanGrowsUptoRow : OpenClaim := { program := "ytkffjbijamfnoaagreat", sum := "de2661c527ed18492fd2ab5399b0abe2e041acea7741a01ef80c3e0679a4fe17", func := "leat/leatlaw14.MeanGrows", spec := "meanGrows", unfollowed := true, recurses := true, loops := true, plainKeys := false, apart := false, narrowed := true }
def MeanGrowsUptoSaid : Prop := meanGrowsUptoRow.holds Tryz.pinned (OpenSpec.upto meanGrowsSpec)

/-- 'leatlaw14.MeanOrder', WHERE WHAT IT READS IS OF BULK AT MOST 1048576: true; the input reads as it did. -/
def meanOrderUptoRow : OpenClaim := { program := "ytkffjbijamfnoaagreat", sum := "de2661c527ed18492fd2ab5399b0abe2e041acea7741a01ef80c3e0679a4fe17", func := "leat/leatlaw14.MeanOrder", spec := "meanOrder", unfollowed := true, recurses := true, loops := true, plainKeys := false, apart := false, narrowed := true }
def MeanOrderUptoSaid : Prop := meanOrderUptoRow.holds Tryz.pinned (OpenSpec.upto meanOrderSpec)

/-- 'leatlaw14.MeanBags', WHERE WHAT IT READS IS OF BULK AT MOST 1048576: true; the input reads as it did. -/
def meanBagsUptoRow : OpenClaim := { program := "ytkffjbijamfnoaagreat", sum := "de2661c527ed18492fd2ab5399b0abe2e041acea7741a01ef80c3e0679a4fe17", func := "leat/leatlaw14.MeanBags", spec := "meanBags", unfollowed := true, recurses := true, plainKeys := false, apart := false, narrowed := true }
def MeanBagsUptoSaid : Prop := meanBagsUptoRow.holds Tryz.pinned (OpenSpec.upto meanBagsSpec)

/-- 'leatlaw14.MeanUnions', WHERE WHAT IT READS IS OF BULK AT MOST 1048576: true; the input reads as it did. -/
def meanUnionsUptoRow : OpenClaim := { program := "ytkffjbijamfnoaagreat", sum := "de2661c527ed18492fd2ab5399b0abe2e041acea7741a01ef80c3e0679a4fe17", func := "leat/leatlaw14.MeanUnions", spec := "meanUnions", unfollowed := true, recurses := true, loops := true, plainKeys := false, apart := false, narrowed := true }
def MeanUnionsUptoSaid : Prop := meanUnionsUptoRow.holds Tryz.pinned (OpenSpec.upto meanUnionsSpec)

/-- 'leatlaw14.MeanFilters', WHERE WHAT IT READS IS OF BULK AT MOST 1048576: true; the input reads as it did. -/
def meanFiltersUptoRow : OpenClaim := { program := "ytkffjbijamfnoaagreat", sum := "de2661c527ed18492fd2ab5399b0abe2e041acea7741a01ef80c3e0679a4fe17", func := "leat/leatlaw14.MeanFilters", spec := "meanFilters", unfollowed := true, recurses := true, loops := true, plainKeys := false, apart := false, narrowed := true }
def MeanFiltersUptoSaid : Prop := meanFiltersUptoRow.holds Tryz.pinned (OpenSpec.upto meanFiltersSpec)

/-- 'leatlaw14.MeanSums', WHERE WHAT IT READS IS OF BULK AT MOST 1048576: true; the input reads as it did. -/
def meanSumsUptoRow : OpenClaim := { program := "ytkffjbijamfnoaagreat", sum := "de2661c527ed18492fd2ab5399b0abe2e041acea7741a01ef80c3e0679a4fe17", func := "leat/leatlaw14.MeanSums", spec := "meanSums", unfollowed := true, recurses := true, loops := true, plainKeys := false, apart := false, narrowed := true }
def MeanSumsUptoSaid : Prop := meanSumsUptoRow.holds Tryz.pinned (OpenSpec.upto meanSumsSpec)

/-- 'leatlaw14.MeanParts', WHERE WHAT IT READS IS OF BULK AT MOST 1048576: true; the input reads as it did. -/
def meanPartsUptoRow : OpenClaim := { program := "ytkffjbijamfnoaagreat", sum := "de2661c527ed18492fd2ab5399b0abe2e041acea7741a01ef80c3e0679a4fe17", func := "leat/leatlaw14.MeanParts", spec := "meanParts", unfollowed := true, recurses := true, loops := true, plainKeys := false, apart := false, narrowed := true }
def MeanPartsUptoSaid : Prop := meanPartsUptoRow.holds Tryz.pinned (OpenSpec.upto meanPartsSpec)

end Rows
end Go.Proofs.YtkffjbijamfnoaaGreat
