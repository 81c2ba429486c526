/-
  NARROWER THAN 'FOR EVERY INPUT', by the rows' own cells (each row's printed sentence says how): LotsMore: laid · LotsBytes: laid · LotsRuns: laid · LotsBack: laid · LotsWrites: laid.
  DERIVED. THE GIVEN ROWS OF THIS SEAT. 5 by the template 'for every input the law returns true; each argument reads behind the call as it read before'; 0 by the template 'total and deterministic' (their statements: YtlcfkdglknkbdaaDoorTotals.lean).
  GIVEN WITH THE SEED: the statements are not yours to turn. If you find one false, say at which input.
  Laid BY PROGRAM, IN A SANDBOX (cutbox-rows.mjs): the forced cells as the released guide's own fill.sh prints them over the translation 62c30ce8bb03035a… (all of the seat's roots in one cut). By AI agents, Wed Nov 11 2026. No macro, syntax, notation, axiom, sorry.
-/
import Derived.Test.YtlcfkdglknkbdaaDoorChecked
import GoSem.Claim
import GoSem.ClaimJoined
import GoSem.ClaimMapViews
import Derived.JoinedTies
import Derived.KernelRfl
namespace Go.Proofs.YtlcfkdglknkbdaaDoor
/- THE CELL 'sum', in the pinned program and in every row, IS THE sha256 OF THE DUMP (.gsa) THAT YtlcfkdglknkbdaaDoorProg.lean LOADS. Nothing in Lean hashes anything: it is a label: what it is worth is what the hold of that sum in a sandbox is worth. -/
noncomputable def Tryd.pinned : Pinned := { name := "ytlcfkdglknkbdaadoor", sum := "62c30ce8bb03035a45a2984f407c01573d38db305da0a9061c09b6752434d18d", checked := Tryd.checked }
namespace Rows
def none {H : Type} : Left H := { results := [], args := [] }

/- WHAT THE LISTED PACKAGE-LEVEL VARIABLES READ AS WHEN THE CALL BEGINS. Each datum BY PROGRAM (the guide's laid-datum.mjs) off the statement by which the dump's own 'gosem.cut.vars' lays the variable. In a bare row this is a premise. The card (YtlcfkdglknkbdaaDoorCards.lean) ties it to the program's text. -/
def laid_sexton_api_ErrArg {H : Type} : DataW H := .iface "*errors.errorString" (.ptr (.agg [.lit (.string [97, 110, 32, 97, 114, 103, 117, 109, 101, 110, 116, 32, 116, 104, 97, 116, 32, 99, 97, 110, 39, 116, 32, 98, 101])]))

/-- 'sextonlaw19.LotsMore': WHATEVER THE INPUT: true; the input reads as it did. -/
def lotsMoreSpec : ChangeSpec := { name := "lotsMore", fn := fun _ => fun
  | [d1, d2] => { results := [.lit (.bool true)], args := [d1, d2] }
  | _ => none }
def lotsMoreRow : OpenClaim := { program := "ytlcfkdglknkbdaadoor", sum := "62c30ce8bb03035a45a2984f407c01573d38db305da0a9061c09b6752434d18d", func := "sexton/sextonlaw19.LotsMore", spec := "lotsMore", unfollowed := true, recurses := true, named := ["sexton/api.ErrArg"], apart := false, laid := [("sexton/api.ErrArg", laid_sexton_api_ErrArg)] }
def LotsMoreSaid : Prop := lotsMoreRow.holds Tryd.pinned (OpenSpec.ofChange lotsMoreSpec)

/-- ITS FALSE NEIGHBOUR: 'it returns false'. Refute it at one input. -/
def lotsMoreWrong : ChangeSpec := { name := "lotsMore", fn := fun _ => fun
  | [d1, d2] => { results := [.lit (.bool false)], args := [d1, d2] }
  | _ => none }
def LotsMoreWrongFalsely : Prop := lotsMoreRow.holds Tryd.pinned (OpenSpec.ofChange lotsMoreWrong)

/-- 'sextonlaw19.LotsBytes': WHATEVER THE INPUT: true; the input reads as it did. -/
def lotsBytesSpec : ChangeSpec := { name := "lotsBytes", fn := fun _ => fun
  | [d1, d2, d3] => { results := [.lit (.bool true)], args := [d1, d2, d3] }
  | _ => none }
def lotsBytesRow : OpenClaim := { program := "ytlcfkdglknkbdaadoor", sum := "62c30ce8bb03035a45a2984f407c01573d38db305da0a9061c09b6752434d18d", func := "sexton/sextonlaw19.LotsBytes", spec := "lotsBytes", unfollowed := true, recurses := true, named := ["sexton/api.ErrArg"], apart := false, laid := [("sexton/api.ErrArg", laid_sexton_api_ErrArg)] }
def LotsBytesSaid : Prop := lotsBytesRow.holds Tryd.pinned (OpenSpec.ofChange lotsBytesSpec)

/-- ITS FALSE NEIGHBOUR: 'it returns false'. Refute it at one input. -/
def lotsBytesWrong : ChangeSpec := { name := "lotsBytes", fn := fun _ => fun
  | [d1, d2, d3] => { results := [.lit (.bool false)], args := [d1, d2, d3] }
  | _ => none }
def LotsBytesWrongFalsely : Prop := lotsBytesRow.holds Tryd.pinned (OpenSpec.ofChange lotsBytesWrong)

/-- 'sextonlaw19.LotsRuns': WHATEVER THE INPUT: true; the input reads as it did. -/
def lotsRunsSpec : ChangeSpec := { name := "lotsRuns", fn := fun _ => fun
  | [d] => { results := [.lit (.bool true)], args := [d] }
  | _ => none }
def lotsRunsRow : OpenClaim := { program := "ytlcfkdglknkbdaadoor", sum := "62c30ce8bb03035a45a2984f407c01573d38db305da0a9061c09b6752434d18d", func := "sexton/sextonlaw19.LotsRuns", spec := "lotsRuns", unfollowed := true, recurses := true, named := ["sexton/api.ErrArg"], apart := false, laid := [("sexton/api.ErrArg", laid_sexton_api_ErrArg)] }
def LotsRunsSaid : Prop := lotsRunsRow.holds Tryd.pinned (OpenSpec.ofChange lotsRunsSpec)

/-- ITS FALSE NEIGHBOUR: 'it returns false'. Refute it at one input. -/
def lotsRunsWrong : ChangeSpec := { name := "lotsRuns", fn := fun _ => fun
  | [d] => { results := [.lit (.bool false)], args := [d] }
  | _ => none }
def LotsRunsWrongFalsely : Prop := lotsRunsRow.holds Tryd.pinned (OpenSpec.ofChange lotsRunsWrong)

/-- 'sextonlaw19.LotsBack': WHATEVER THE INPUT: true; the input reads as it did. -/
def lotsBackSpec : ChangeSpec := { name := "lotsBack", fn := fun _ => fun
  | [d1, d2, d3] => { results := [.lit (.bool true)], args := [d1, d2, d3] }
  | _ => none }
def lotsBackRow : OpenClaim := { program := "ytlcfkdglknkbdaadoor", sum := "62c30ce8bb03035a45a2984f407c01573d38db305da0a9061c09b6752434d18d", func := "sexton/sextonlaw19.LotsBack", spec := "lotsBack", unfollowed := true, recurses := true, named := ["sexton/api.ErrArg"], apart := false, laid := [("sexton/api.ErrArg", laid_sexton_api_ErrArg)] }
def LotsBackSaid : Prop := lotsBackRow.holds Tryd.pinned (OpenSpec.ofChange lotsBackSpec)

/-- ITS FALSE NEIGHBOUR: 'it returns false'. Refute it at one input. -/
def lotsBackWrong : ChangeSpec := { name := "lotsBack", fn := fun _ => fun
  | [d1, d2, d3] => { results := [.lit (.bool false)], args := [d1, d2, d3] }
  | _ => none }
def LotsBackWrongFalsely : Prop := lotsBackRow.holds Tryd.pinned (OpenSpec.ofChange lotsBackWrong)

/-- 'sextonlaw19.LotsWrites': WHATEVER THE INPUT: true; the input reads as it did. -/
def lotsWritesSpec : ChangeSpec := { name := "lotsWrites", fn := fun _ => fun
  | [d1, d2] => { results := [.lit (.bool true)], args := [d1, d2] }
  | _ => none }
def lotsWritesRow : OpenClaim := { program := "ytlcfkdglknkbdaadoor", sum := "62c30ce8bb03035a45a2984f407c01573d38db305da0a9061c09b6752434d18d", func := "sexton/sextonlaw19.LotsWrites", spec := "lotsWrites", inPlace := ["internal/reflectlite.TypeOf"], unfollowed := true, recurses := true, named := ["sexton/api.ErrArg"], apart := false, laid := [("sexton/api.ErrArg", laid_sexton_api_ErrArg)] }
def LotsWritesSaid : Prop := lotsWritesRow.holds Tryd.pinned (OpenSpec.ofChange lotsWritesSpec)

/-- ITS FALSE NEIGHBOUR: 'it returns false'. Refute it at one input. -/
def lotsWritesWrong : ChangeSpec := { name := "lotsWrites", fn := fun _ => fun
  | [d1, d2] => { results := [.lit (.bool false)], args := [d1, d2] }
  | _ => none }
def LotsWritesWrongFalsely : Prop := lotsWritesRow.holds Tryd.pinned (OpenSpec.ofChange lotsWritesWrong)

/- THE SECOND FORM. 'bulk': how many values and letters a reading holds, each counted each time it is reached (what is shared counts as often as it is met; a slice's spare places count too). A statement '..UptoSaid' is the law's where the arguments, and the package variables that the reading takes, are together of bulk at most 1048576: NARROWER than '..Said'. Prove '..Said' where nothing that the law and all that it calls make is longer than what came in: it says more and counts as full. Else prove '..UptoSaid'. A law counts once. -/
mutual
def uptoBulk {H : Type} : DataW H → Nat
  | .lit (.string bytes) => bytes.length + 1
  | .lit _ => 1
  | .nil => 1
  | .ptr d => uptoBulk d + 1
  | .slice elems spare => uptoBulkAll elems + uptoBulkAll spare + 1
  | .agg parts => uptoBulkAll parts + 1
  | .iface _ d => uptoBulk d + 1
  | .map entries => uptoBulkEntries entries + 1
  | .held _ => 1
def uptoBulkAll {H : Type} : List (DataW H) → Nat
  | [] => 0
  | d :: r => uptoBulk d + uptoBulkAll r
def uptoBulkEntries {H : Type} : List (Lit × DataW H) → Nat
  | [] => 0
  | x :: r => uptoBulkEntry x + uptoBulkEntries r
def uptoBulkEntry {H : Type} : Lit × DataW H → Nat
  | (.string bytes, d) => bytes.length + uptoBulk d + 1
  | (_, d) => uptoBulk d + 1
 end
def uptoSmall : (H : Type) → List (DataW H) → Bool := fun _ ds => decide (uptoBulkAll ds ≤ 1048576)
def OpenSpec.upto (s : _root_.Go.ChangeSpec) : _root_.Go.OpenSpec := { _root_.Go.OpenSpec.ofChange s with cond := some uptoSmall }

/-- 'sextonlaw19.LotsMore', WHERE WHAT IT READS IS OF BULK AT MOST 1048576: true; the input reads as it did. -/
def lotsMoreUptoRow : OpenClaim := { program := "ytlcfkdglknkbdaadoor", sum := "62c30ce8bb03035a45a2984f407c01573d38db305da0a9061c09b6752434d18d", func := "sexton/sextonlaw19.LotsMore", spec := "lotsMore", unfollowed := true, recurses := true, named := ["sexton/api.ErrArg"], apart := false, laid := [("sexton/api.ErrArg", laid_sexton_api_ErrArg)], narrowed := true }
def LotsMoreUptoSaid : Prop := lotsMoreUptoRow.holds Tryd.pinned (OpenSpec.upto lotsMoreSpec)

/-- 'sextonlaw19.LotsBytes', WHERE WHAT IT READS IS OF BULK AT MOST 1048576: true; the input reads as it did. -/
def lotsBytesUptoRow : OpenClaim := { program := "ytlcfkdglknkbdaadoor", sum := "62c30ce8bb03035a45a2984f407c01573d38db305da0a9061c09b6752434d18d", func := "sexton/sextonlaw19.LotsBytes", spec := "lotsBytes", unfollowed := true, recurses := true, named := ["sexton/api.ErrArg"], apart := false, laid := [("sexton/api.ErrArg", laid_sexton_api_ErrArg)], narrowed := true }
def LotsBytesUptoSaid : Prop := lotsBytesUptoRow.holds Tryd.pinned (OpenSpec.upto lotsBytesSpec)

/-- 'sextonlaw19.LotsRuns', WHERE WHAT IT READS IS OF BULK AT MOST 1048576: true; the input reads as it did. -/
def lotsRunsUptoRow : OpenClaim := { program := "ytlcfkdglknkbdaadoor", sum := "62c30ce8bb03035a45a2984f407c01573d38db305da0a9061c09b6752434d18d", func := "sexton/sextonlaw19.LotsRuns", spec := "lotsRuns", unfollowed := true, recurses := true, named := ["sexton/api.ErrArg"], apart := false, laid := [("sexton/api.ErrArg", laid_sexton_api_ErrArg)], narrowed := true }
def LotsRunsUptoSaid : Prop := lotsRunsUptoRow.holds Tryd.pinned (OpenSpec.upto lotsRunsSpec)

/-- 'sextonlaw19.LotsBack', WHERE WHAT IT READS IS OF BULK AT MOST 1048576: true; the input reads as it did. -/
def lotsBackUptoRow : OpenClaim := { program := "ytlcfkdglknkbdaadoor", sum := "62c30ce8bb03035a45a2984f407c01573d38db305da0a9061c09b6752434d18d", func := "sexton/sextonlaw19.LotsBack", spec := "lotsBack", unfollowed := true, recurses := true, named := ["sexton/api.ErrArg"], apart := false, laid := [("sexton/api.ErrArg", laid_sexton_api_ErrArg)], narrowed := true }
def LotsBackUptoSaid : Prop := lotsBackUptoRow.holds Tryd.pinned (OpenSpec.upto lotsBackSpec)

/-- 'sextonlaw19.LotsWrites', WHERE WHAT IT READS IS OF BULK AT MOST 1048576: true; the input reads as it did. -/
def lotsWritesUptoRow : OpenClaim := { program := "ytlcfkdglknkbdaadoor", sum := "62c30ce8bb03035a45a2984f407c01573d38db305da0a9061c09b6752434d18d", func := "sexton/sextonlaw19.LotsWrites", spec := "lotsWrites", inPlace := ["internal/reflectlite.TypeOf"], unfollowed := true, recurses := true, named := ["sexton/api.ErrArg"], apart := false, laid := [("sexton/api.ErrArg", laid_sexton_api_ErrArg)], narrowed := true }
def LotsWritesUptoSaid : Prop := lotsWritesUptoRow.holds Tryd.pinned (OpenSpec.upto lotsWritesSpec)

end Rows
end Go.Proofs.YtlcfkdglknkbdaaDoor
