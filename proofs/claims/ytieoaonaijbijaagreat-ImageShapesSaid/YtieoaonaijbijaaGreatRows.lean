/-
  No cell of these rows narrows 'for every input' (looked for: loops, veiled, ifaces, maps, wideKeys, modest, calm, conditions, laid).
  DERIVED. THE GIVEN ROWS OF THIS SEAT. 7 by the template 'for every input the law returns true; each argument reads behind the call as it read before'; 0 by the template 'total and deterministic' (their statements: YtieoaonaijbijaaGreatTotals.lean).
  GIVEN WITH THE SEED: the statements are not yours to turn. If you find one false, say at which input.
  Laid BY PROGRAM, IN A SANDBOX (cutbox-rows.mjs): the forced cells as the released guide's own fill.sh prints them over the translation 3165924929a995ff… (all of the seat's roots in one cut). By AI agents, Wed Nov 11 2026. No macro, syntax, notation, axiom, sorry.
-/
import Derived.Test.YtieoaonaijbijaaGreatChecked
import GoSem.Claim
import GoSem.ClaimJoined
import GoSem.ClaimMapViews
import Derived.JoinedTies
import Derived.KernelRfl
namespace Go.Proofs.YtieoaonaijbijaaGreat
/- THE CELL 'sum', in the pinned program and in every row, IS THE sha256 OF THE DUMP (.gsa) THAT YtieoaonaijbijaaGreatProg.lean LOADS. Nothing in Lean hashes anything: it is a label: what it is worth is what the hold of that sum in a sandbox is worth. -/
noncomputable def Tryz.pinned : Pinned := { name := "ytieoaonaijbijaagreat", sum := "3165924929a995ffe283a7c774184404fc206ac12b0e4dfb4cce3f9ac516f479", checked := Tryz.checked }
namespace Rows
def none {H : Type} : Left H := { results := [], args := [] }

/-- 'hibernaclelaw17.ImageApart': WHATEVER THE INPUT: true; the input reads as it did. -/
def imageApartSpec : ChangeSpec := { name := "imageApart", fn := fun _ => fun
  | [d1, d2, d3, d4, d5] => { results := [.lit (.bool true)], args := [d1, d2, d3, d4, d5] }
  | _ => none }
def imageApartRow : OpenClaim := { program := "ytieoaonaijbijaagreat", sum := "3165924929a995ffe283a7c774184404fc206ac12b0e4dfb4cce3f9ac516f479", func := "hibernacle/hibernaclelaw17.ImageApart", spec := "imageApart", unfollowed := true, recurses := true, apart := false }
def ImageApartSaid : Prop := imageApartRow.holds Tryz.pinned (OpenSpec.ofChange imageApartSpec)

/-- ITS FALSE NEIGHBOUR: 'it returns false'. Refute it at one input. -/
def imageApartWrong : ChangeSpec := { name := "imageApart", fn := fun _ => fun
  | [d1, d2, d3, d4, d5] => { results := [.lit (.bool false)], args := [d1, d2, d3, d4, d5] }
  | _ => none }
def ImageApartWrongFalsely : Prop := imageApartRow.holds Tryz.pinned (OpenSpec.ofChange imageApartWrong)

/-- 'hibernaclelaw17.ImageShapes': WHATEVER THE INPUT: true; the input reads as it did. -/
def imageShapesSpec : ChangeSpec := { name := "imageShapes", fn := fun _ => fun
  | [d1, d2, d3, d4, d5] => { results := [.lit (.bool true)], args := [d1, d2, d3, d4, d5] }
  | _ => none }
def imageShapesRow : OpenClaim := { program := "ytieoaonaijbijaagreat", sum := "3165924929a995ffe283a7c774184404fc206ac12b0e4dfb4cce3f9ac516f479", func := "hibernacle/hibernaclelaw17.ImageShapes", spec := "imageShapes", unfollowed := true, recurses := true, apart := false }
def ImageShapesSaid : Prop := imageShapesRow.holds Tryz.pinned (OpenSpec.ofChange imageShapesSpec)

/-- ITS FALSE NEIGHBOUR: 'it returns false'. Refute it at one input. -/
def imageShapesWrong : ChangeSpec := { name := "imageShapes", fn := fun _ => fun
  | [d1, d2, d3, d4, d5] => { results := [.lit (.bool false)], args := [d1, d2, d3, d4, d5] }
  | _ => none }
def ImageShapesWrongFalsely : Prop := imageShapesRow.holds Tryz.pinned (OpenSpec.ofChange imageShapesWrong)

/-- 'hibernaclelaw17.ImageReads': WHATEVER THE INPUT: true; the input reads as it did. -/
def imageReadsSpec : ChangeSpec := { name := "imageReads", fn := fun _ => fun
  | [d1, d2, d3, d4, d5, d6, d7] => { results := [.lit (.bool true)], args := [d1, d2, d3, d4, d5, d6, d7] }
  | _ => none }
def imageReadsRow : OpenClaim := { program := "ytieoaonaijbijaagreat", sum := "3165924929a995ffe283a7c774184404fc206ac12b0e4dfb4cce3f9ac516f479", func := "hibernacle/hibernaclelaw17.ImageReads", spec := "imageReads", unfollowed := true, recurses := true, apart := false }
def ImageReadsSaid : Prop := imageReadsRow.holds Tryz.pinned (OpenSpec.ofChange imageReadsSpec)

/-- ITS FALSE NEIGHBOUR: 'it returns false'. Refute it at one input. -/
def imageReadsWrong : ChangeSpec := { name := "imageReads", fn := fun _ => fun
  | [d1, d2, d3, d4, d5, d6, d7] => { results := [.lit (.bool false)], args := [d1, d2, d3, d4, d5, d6, d7] }
  | _ => none }
def ImageReadsWrongFalsely : Prop := imageReadsRow.holds Tryz.pinned (OpenSpec.ofChange imageReadsWrong)

/-- 'hibernaclelaw17.ImageAny': WHATEVER THE INPUT: true; the input reads as it did. -/
def imageAnySpec : ChangeSpec := { name := "imageAny", fn := fun _ => fun
  | [d] => { results := [.lit (.bool true)], args := [d] }
  | _ => none }
def imageAnyRow : OpenClaim := { program := "ytieoaonaijbijaagreat", sum := "3165924929a995ffe283a7c774184404fc206ac12b0e4dfb4cce3f9ac516f479", func := "hibernacle/hibernaclelaw17.ImageAny", spec := "imageAny", unfollowed := true, recurses := true, apart := false }
def ImageAnySaid : Prop := imageAnyRow.holds Tryz.pinned (OpenSpec.ofChange imageAnySpec)

/-- ITS FALSE NEIGHBOUR: 'it returns false'. Refute it at one input. -/
def imageAnyWrong : ChangeSpec := { name := "imageAny", fn := fun _ => fun
  | [d] => { results := [.lit (.bool false)], args := [d] }
  | _ => none }
def ImageAnyWrongFalsely : Prop := imageAnyRow.holds Tryz.pinned (OpenSpec.ofChange imageAnyWrong)

/-- 'hibernaclelaw17.ImageTurns': WHATEVER THE INPUT: true; the input reads as it did. -/
def imageTurnsSpec : ChangeSpec := { name := "imageTurns", fn := fun _ => fun
  | [d1, d2, d3, d4] => { results := [.lit (.bool true)], args := [d1, d2, d3, d4] }
  | _ => none }
def imageTurnsRow : OpenClaim := { program := "ytieoaonaijbijaagreat", sum := "3165924929a995ffe283a7c774184404fc206ac12b0e4dfb4cce3f9ac516f479", func := "hibernacle/hibernaclelaw17.ImageTurns", spec := "imageTurns", unfollowed := true, recurses := true, apart := false }
def ImageTurnsSaid : Prop := imageTurnsRow.holds Tryz.pinned (OpenSpec.ofChange imageTurnsSpec)

/-- ITS FALSE NEIGHBOUR: 'it returns false'. Refute it at one input. -/
def imageTurnsWrong : ChangeSpec := { name := "imageTurns", fn := fun _ => fun
  | [d1, d2, d3, d4] => { results := [.lit (.bool false)], args := [d1, d2, d3, d4] }
  | _ => none }
def ImageTurnsWrongFalsely : Prop := imageTurnsRow.holds Tryz.pinned (OpenSpec.ofChange imageTurnsWrong)

/-- 'hibernaclelaw17.ImageMore': WHATEVER THE INPUT: true; the input reads as it did. -/
def imageMoreSpec : ChangeSpec := { name := "imageMore", fn := fun _ => fun
  | [d1, d2, d3, d4] => { results := [.lit (.bool true)], args := [d1, d2, d3, d4] }
  | _ => none }
def imageMoreRow : OpenClaim := { program := "ytieoaonaijbijaagreat", sum := "3165924929a995ffe283a7c774184404fc206ac12b0e4dfb4cce3f9ac516f479", func := "hibernacle/hibernaclelaw17.ImageMore", spec := "imageMore", unfollowed := true, recurses := true, apart := false }
def ImageMoreSaid : Prop := imageMoreRow.holds Tryz.pinned (OpenSpec.ofChange imageMoreSpec)

/-- ITS FALSE NEIGHBOUR: 'it returns false'. Refute it at one input. -/
def imageMoreWrong : ChangeSpec := { name := "imageMore", fn := fun _ => fun
  | [d1, d2, d3, d4] => { results := [.lit (.bool false)], args := [d1, d2, d3, d4] }
  | _ => none }
def ImageMoreWrongFalsely : Prop := imageMoreRow.holds Tryz.pinned (OpenSpec.ofChange imageMoreWrong)

/-- 'hibernaclelaw17.ImageRound': WHATEVER THE INPUT: true; the input reads as it did. -/
def imageRoundSpec : ChangeSpec := { name := "imageRound", fn := fun _ => fun
  | [d1, d2, d3] => { results := [.lit (.bool true)], args := [d1, d2, d3] }
  | _ => none }
def imageRoundRow : OpenClaim := { program := "ytieoaonaijbijaagreat", sum := "3165924929a995ffe283a7c774184404fc206ac12b0e4dfb4cce3f9ac516f479", func := "hibernacle/hibernaclelaw17.ImageRound", spec := "imageRound", unfollowed := true, recurses := true, apart := false }
def ImageRoundSaid : Prop := imageRoundRow.holds Tryz.pinned (OpenSpec.ofChange imageRoundSpec)

/-- ITS FALSE NEIGHBOUR: 'it returns false'. Refute it at one input. -/
def imageRoundWrong : ChangeSpec := { name := "imageRound", fn := fun _ => fun
  | [d1, d2, d3] => { results := [.lit (.bool false)], args := [d1, d2, d3] }
  | _ => none }
def ImageRoundWrongFalsely : Prop := imageRoundRow.holds Tryz.pinned (OpenSpec.ofChange imageRoundWrong)

/- THE SECOND FORM. 'bulk': how many values and letters a reading holds, each counted each time it is reached (what is shared counts as often as it is met; a slice's spare places count too). A statement '..UptoSaid' is the law's where the arguments, and the package variables that the reading takes, are together of bulk at most 1048576: NARROWER than '..Said'. Prove '..Said' where nothing that the law and all that it calls make is longer than what came in: it says more and counts as full. Else prove '..UptoSaid'. A law counts once. -/
mutual
def uptoBulk {H : Type} : DataW H → Nat
  | .lit (.string bytes) => bytes.length + 1
  | .lit _ => 1
  | .nil => 1
  | .ptr d => uptoBulk d + 1
  | .slice elems spare => uptoBulkAll elems + uptoBulkAll spare + 1
  | .agg parts => uptoBulkAll parts + 1
  | .iface _ d => uptoBulk d + 1
  | .map entries => uptoBulkEntries entries + 1
  | .held _ => 1
def uptoBulkAll {H : Type} : List (DataW H) → Nat
  | [] => 0
  | d :: r => uptoBulk d + uptoBulkAll r
def uptoBulkEntries {H : Type} : List (Lit × DataW H) → Nat
  | [] => 0
  | x :: r => uptoBulkEntry x + uptoBulkEntries r
def uptoBulkEntry {H : Type} : Lit × DataW H → Nat
  | (.string bytes, d) => bytes.length + uptoBulk d + 1
  | (_, d) => uptoBulk d + 1
 end
def uptoSmall : (H : Type) → List (DataW H) → Bool := fun _ ds => decide (uptoBulkAll ds ≤ 1048576)
def OpenSpec.upto (s : _root_.Go.ChangeSpec) : _root_.Go.OpenSpec := { _root_.Go.OpenSpec.ofChange s with cond := some uptoSmall }

/-- 'hibernaclelaw17.ImageApart', WHERE WHAT IT READS IS OF BULK AT MOST 1048576: true; the input reads as it did. -/
def imageApartUptoRow : OpenClaim := { program := "ytieoaonaijbijaagreat", sum := "3165924929a995ffe283a7c774184404fc206ac12b0e4dfb4cce3f9ac516f479", func := "hibernacle/hibernaclelaw17.ImageApart", spec := "imageApart", unfollowed := true, recurses := true, apart := false, narrowed := true }
def ImageApartUptoSaid : Prop := imageApartUptoRow.holds Tryz.pinned (OpenSpec.upto imageApartSpec)

/-- 'hibernaclelaw17.ImageShapes', WHERE WHAT IT READS IS OF BULK AT MOST 1048576: true; the input reads as it did. -/
def imageShapesUptoRow : OpenClaim := { program := "ytieoaonaijbijaagreat", sum := "3165924929a995ffe283a7c774184404fc206ac12b0e4dfb4cce3f9ac516f479", func := "hibernacle/hibernaclelaw17.ImageShapes", spec := "imageShapes", unfollowed := true, recurses := true, apart := false, narrowed := true }
def ImageShapesUptoSaid : Prop := imageShapesUptoRow.holds Tryz.pinned (OpenSpec.upto imageShapesSpec)

/-- 'hibernaclelaw17.ImageReads', WHERE WHAT IT READS IS OF BULK AT MOST 1048576: true; the input reads as it did. -/
def imageReadsUptoRow : OpenClaim := { program := "ytieoaonaijbijaagreat", sum := "3165924929a995ffe283a7c774184404fc206ac12b0e4dfb4cce3f9ac516f479", func := "hibernacle/hibernaclelaw17.ImageReads", spec := "imageReads", unfollowed := true, recurses := true, apart := false, narrowed := true }
def ImageReadsUptoSaid : Prop := imageReadsUptoRow.holds Tryz.pinned (OpenSpec.upto imageReadsSpec)

/-- 'hibernaclelaw17.ImageAny', WHERE WHAT IT READS IS OF BULK AT MOST 1048576: true; the input reads as it did. -/
def imageAnyUptoRow : OpenClaim := { program := "ytieoaonaijbijaagreat", sum := "3165924929a995ffe283a7c774184404fc206ac12b0e4dfb4cce3f9ac516f479", func := "hibernacle/hibernaclelaw17.ImageAny", spec := "imageAny", unfollowed := true, recurses := true, apart := false, narrowed := true }
def ImageAnyUptoSaid : Prop := imageAnyUptoRow.holds Tryz.pinned (OpenSpec.upto imageAnySpec)

/-- 'hibernaclelaw17.ImageTurns', WHERE WHAT IT READS IS OF BULK AT MOST 1048576: true; the input reads as it did. -/
def imageTurnsUptoRow : OpenClaim := { program := "ytieoaonaijbijaagreat", sum := "3165924929a995ffe283a7c774184404fc206ac12b0e4dfb4cce3f9ac516f479", func := "hibernacle/hibernaclelaw17.ImageTurns", spec := "imageTurns", unfollowed := true, recurses := true, apart := false, narrowed := true }
def ImageTurnsUptoSaid : Prop := imageTurnsUptoRow.holds Tryz.pinned (OpenSpec.upto imageTurnsSpec)

/-- 'hibernaclelaw17.ImageMore', WHERE WHAT IT READS IS OF BULK AT MOST 1048576: true; the input reads as it did. -/
def imageMoreUptoRow : OpenClaim := { program := "ytieoaonaijbijaagreat", sum := "3165924929a995ffe283a7c774184404fc206ac12b0e4dfb4cce3f9ac516f479", func := "hibernacle/hibernaclelaw17.ImageMore", spec := "imageMore", unfollowed := true, recurses := true, apart := false, narrowed := true }
def ImageMoreUptoSaid : Prop := imageMoreUptoRow.holds Tryz.pinned (OpenSpec.upto imageMoreSpec)

/-- 'hibernaclelaw17.ImageRound', WHERE WHAT IT READS IS OF BULK AT MOST 1048576: true; the input reads as it did. -/
def imageRoundUptoRow : OpenClaim := { program := "ytieoaonaijbijaagreat", sum := "3165924929a995ffe283a7c774184404fc206ac12b0e4dfb4cce3f9ac516f479", func := "hibernacle/hibernaclelaw17.ImageRound", spec := "imageRound", unfollowed := true, recurses := true, apart := false, narrowed := true }
def ImageRoundUptoSaid : Prop := imageRoundUptoRow.holds Tryz.pinned (OpenSpec.upto imageRoundSpec)

end Rows
end Go.Proofs.YtieoaonaijbijaaGreat
