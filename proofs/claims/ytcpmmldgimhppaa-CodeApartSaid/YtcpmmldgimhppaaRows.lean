/-
  No cell of these rows narrows 'for every input' (looked for: loops, veiled, ifaces, maps, wideKeys, modest, calm, conditions, laid).
  DERIVED. THE GIVEN ROWS OF THIS SEAT. 4 by the template 'for every input the law returns true; each argument reads behind the call as it read before'; 0 by the template 'total and deterministic' (their statements: YtcpmmldgimhppaaTotals.lean).
  GIVEN WITH THE SEED: the statements are not yours to turn. If you find one false, say at which input.
  Laid BY PROGRAM, IN A SANDBOX (cutbox-rows.mjs): the forced cells as the released guide's own fill.sh prints them over the translation 613da812c2620b9c… (all of the seat's roots in one cut). By AI agents, Wed Nov 11 2026. No macro, syntax, notation, axiom, sorry.
-/
import Derived.Test.YtcpmmldgimhppaaChecked
import GoSem.Claim
import GoSem.ClaimJoined
import GoSem.ClaimMapViews
import Derived.JoinedTies
import Derived.KernelRfl
namespace Go.Proofs.Ytcpmmldgimhppaa
/- THE CELL 'sum', in the pinned program and in every row, IS THE sha256 OF THE DUMP (.gsa) THAT YtcpmmldgimhppaaProg.lean LOADS. Nothing in Lean hashes anything: it is a label: what it is worth is what the hold of that sum in a sandbox is worth. -/
noncomputable def Try.pinned : Pinned := { name := "ytcpmmldgimhppaa", sum := "613da812c2620b9c35c9f8b35ee84d0547d43e528f7dfe72dedf07f813bf3066", checked := Try.checked }
namespace Rows
def none {H : Type} : Left H := { results := [], args := [] }

/-- 'hibernaclelaw03.CodeMay': WHATEVER THE INPUT: true; the input reads as it did. -/
def codeMaySpec : ChangeSpec := { name := "codeMay", fn := fun _ => fun
  | [d] => { results := [.lit (.bool true)], args := [d] }
  | _ => none }
def codeMayRow : OpenClaim := { program := "ytcpmmldgimhppaa", sum := "613da812c2620b9c35c9f8b35ee84d0547d43e528f7dfe72dedf07f813bf3066", func := "hibernacle/hibernaclelaw03.CodeMay", spec := "codeMay", unfollowed := true, recurses := true, apart := false }
def CodeMaySaid : Prop := codeMayRow.holds Try.pinned (OpenSpec.ofChange codeMaySpec)

/-- ITS FALSE NEIGHBOUR: 'it returns false'. Refute it at one input. -/
def codeMayWrong : ChangeSpec := { name := "codeMay", fn := fun _ => fun
  | [d] => { results := [.lit (.bool false)], args := [d] }
  | _ => none }
def CodeMayWrongFalsely : Prop := codeMayRow.holds Try.pinned (OpenSpec.ofChange codeMayWrong)

/-- 'hibernaclelaw03.CodeAt': WHATEVER THE INPUT: true; the input reads as it did. -/
def codeAtSpec : ChangeSpec := { name := "codeAt", fn := fun _ => fun
  | [d1, d2, d3] => { results := [.lit (.bool true)], args := [d1, d2, d3] }
  | _ => none }
def codeAtRow : OpenClaim := { program := "ytcpmmldgimhppaa", sum := "613da812c2620b9c35c9f8b35ee84d0547d43e528f7dfe72dedf07f813bf3066", func := "hibernacle/hibernaclelaw03.CodeAt", spec := "codeAt", unfollowed := true, recurses := true, apart := false }
def CodeAtSaid : Prop := codeAtRow.holds Try.pinned (OpenSpec.ofChange codeAtSpec)

/-- ITS FALSE NEIGHBOUR: 'it returns false'. Refute it at one input. -/
def codeAtWrong : ChangeSpec := { name := "codeAt", fn := fun _ => fun
  | [d1, d2, d3] => { results := [.lit (.bool false)], args := [d1, d2, d3] }
  | _ => none }
def CodeAtWrongFalsely : Prop := codeAtRow.holds Try.pinned (OpenSpec.ofChange codeAtWrong)

/-- 'hibernaclelaw03.CodeApart': WHATEVER THE INPUT: true; the input reads as it did. -/
def codeApartSpec : ChangeSpec := { name := "codeApart", fn := fun _ => fun
  | [d1, d2] => { results := [.lit (.bool true)], args := [d1, d2] }
  | _ => none }
def codeApartRow : OpenClaim := { program := "ytcpmmldgimhppaa", sum := "613da812c2620b9c35c9f8b35ee84d0547d43e528f7dfe72dedf07f813bf3066", func := "hibernacle/hibernaclelaw03.CodeApart", spec := "codeApart", unfollowed := true, recurses := true, apart := false }
def CodeApartSaid : Prop := codeApartRow.holds Try.pinned (OpenSpec.ofChange codeApartSpec)

/-- ITS FALSE NEIGHBOUR: 'it returns false'. Refute it at one input. -/
def codeApartWrong : ChangeSpec := { name := "codeApart", fn := fun _ => fun
  | [d1, d2] => { results := [.lit (.bool false)], args := [d1, d2] }
  | _ => none }
def CodeApartWrongFalsely : Prop := codeApartRow.holds Try.pinned (OpenSpec.ofChange codeApartWrong)

/-- 'hibernaclelaw03.CodeEdges': WHATEVER THE INPUT: true; the input reads as it did. -/
def codeEdgesSpec : ChangeSpec := { name := "codeEdges", fn := fun _ => fun
  | [d1, d2, d3, d4] => { results := [.lit (.bool true)], args := [d1, d2, d3, d4] }
  | _ => none }
def codeEdgesRow : OpenClaim := { program := "ytcpmmldgimhppaa", sum := "613da812c2620b9c35c9f8b35ee84d0547d43e528f7dfe72dedf07f813bf3066", func := "hibernacle/hibernaclelaw03.CodeEdges", spec := "codeEdges", unfollowed := true, recurses := true, apart := false }
def CodeEdgesSaid : Prop := codeEdgesRow.holds Try.pinned (OpenSpec.ofChange codeEdgesSpec)

/-- ITS FALSE NEIGHBOUR: 'it returns false'. Refute it at one input. -/
def codeEdgesWrong : ChangeSpec := { name := "codeEdges", fn := fun _ => fun
  | [d1, d2, d3, d4] => { results := [.lit (.bool false)], args := [d1, d2, d3, d4] }
  | _ => none }
def CodeEdgesWrongFalsely : Prop := codeEdgesRow.holds Try.pinned (OpenSpec.ofChange codeEdgesWrong)

/- THE SECOND FORM. 'bulk': how many values and letters a reading holds, each counted each time it is reached (what is shared counts as often as it is met; a slice's spare places count too). A statement '..UptoSaid' is the law's where the arguments, and the package variables that the reading takes, are together of bulk at most 1048576: NARROWER than '..Said'. Prove '..Said' where nothing that the law and all that it calls make is longer than what came in: it says more and counts as full. Else prove '..UptoSaid'. A law counts once. -/
mutual
def uptoBulk {H : Type} : DataW H → Nat
  | .lit (.string bytes) => bytes.length + 1
  | .lit _ => 1
  | .nil => 1
  | .ptr d => uptoBulk d + 1
  | .slice elems spare => uptoBulkAll elems + uptoBulkAll spare + 1
  | .agg parts => uptoBulkAll parts + 1
  | .iface _ d => uptoBulk d + 1
  | .map entries => uptoBulkEntries entries + 1
  | .held _ => 1
def uptoBulkAll {H : Type} : List (DataW H) → Nat
  | [] => 0
  | d :: r => uptoBulk d + uptoBulkAll r
def uptoBulkEntries {H : Type} : List (Lit × DataW H) → Nat
  | [] => 0
  | x :: r => uptoBulkEntry x + uptoBulkEntries r
def uptoBulkEntry {H : Type} : Lit × DataW H → Nat
  | (.string bytes, d) => bytes.length + uptoBulk d + 1
  | (_, d) => uptoBulk d + 1
 end
def uptoSmall : (H : Type) → List (DataW H) → Bool := fun _ ds => decide (uptoBulkAll ds ≤ 1048576)
def OpenSpec.upto (s : _root_.Go.ChangeSpec) : _root_.Go.OpenSpec := { _root_.Go.OpenSpec.ofChange s with cond := some uptoSmall }

/-- 'hibernaclelaw03.CodeMay', WHERE WHAT IT READS IS OF BULK AT MOST 1048576: true; the input reads as it did. -/
def codeMayUptoRow : OpenClaim := { program := "ytcpmmldgimhppaa", sum := "613da812c2620b9c35c9f8b35ee84d0547d43e528f7dfe72dedf07f813bf3066", func := "hibernacle/hibernaclelaw03.CodeMay", spec := "codeMay", unfollowed := true, recurses := true, apart := false, narrowed := true }
def CodeMayUptoSaid : Prop := codeMayUptoRow.holds Try.pinned (OpenSpec.upto codeMaySpec)

/-- 'hibernaclelaw03.CodeAt', WHERE WHAT IT READS IS OF BULK AT MOST 1048576: true; the input reads as it did. -/
def codeAtUptoRow : OpenClaim := { program := "ytcpmmldgimhppaa", sum := "613da812c2620b9c35c9f8b35ee84d0547d43e528f7dfe72dedf07f813bf3066", func := "hibernacle/hibernaclelaw03.CodeAt", spec := "codeAt", unfollowed := true, recurses := true, apart := false, narrowed := true }
def CodeAtUptoSaid : Prop := codeAtUptoRow.holds Try.pinned (OpenSpec.upto codeAtSpec)

/-- 'hibernaclelaw03.CodeApart', WHERE WHAT IT READS IS OF BULK AT MOST 1048576: true; the input reads as it did. -/
def codeApartUptoRow : OpenClaim := { program := "ytcpmmldgimhppaa", sum := "613da812c2620b9c35c9f8b35ee84d0547d43e528f7dfe72dedf07f813bf3066", func := "hibernacle/hibernaclelaw03.CodeApart", spec := "codeApart", unfollowed := true, recurses := true, apart := false, narrowed := true }
def CodeApartUptoSaid : Prop := codeApartUptoRow.holds Try.pinned (OpenSpec.upto codeApartSpec)

/-- 'hibernaclelaw03.CodeEdges', WHERE WHAT IT READS IS OF BULK AT MOST 1048576: true; the input reads as it did. -/
def codeEdgesUptoRow : OpenClaim := { program := "ytcpmmldgimhppaa", sum := "613da812c2620b9c35c9f8b35ee84d0547d43e528f7dfe72dedf07f813bf3066", func := "hibernacle/hibernaclelaw03.CodeEdges", spec := "codeEdges", unfollowed := true, recurses := true, apart := false, narrowed := true }
def CodeEdgesUptoSaid : Prop := codeEdgesUptoRow.holds Try.pinned (OpenSpec.upto codeEdgesSpec)

end Rows
end Go.Proofs.Ytcpmmldgimhppaa
