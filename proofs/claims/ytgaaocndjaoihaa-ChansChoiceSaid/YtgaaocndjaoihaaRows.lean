/-
  No cell of these rows narrows 'for every input' (looked for: loops, veiled, ifaces, maps, wideKeys, modest, calm, conditions, laid).
  DERIVED. THE GIVEN ROWS OF THIS SEAT. 5 by the template 'for every input the law returns true; each argument reads behind the call as it read before'; 0 by the template 'total and deterministic' (their statements: YtgaaocndjaoihaaTotals.lean).
  GIVEN WITH THE SEED: the statements are not yours to turn. If you find one false, say at which input.
  Laid BY PROGRAM, IN A SANDBOX (cutbox-rows.mjs): the forced cells as the released guide's own fill.sh prints them over the translation a6275844c719bc37… (all of the seat's roots in one cut). By AI agents, Wed Nov 11 2026. No macro, syntax, notation, axiom, sorry.
-/
import Derived.Test.YtgaaocndjaoihaaChecked
import GoSem.Claim
import GoSem.ClaimJoined
import GoSem.ClaimMapViews
import Derived.JoinedTies
import Derived.KernelRfl
namespace Go.Proofs.Ytgaaocndjaoihaa
/- THE CELL 'sum', in the pinned program and in every row, IS THE sha256 OF THE DUMP (.gsa) THAT YtgaaocndjaoihaaProg.lean LOADS. Nothing in Lean hashes anything: it is a label: what it is worth is what the hold of that sum in a sandbox is worth. -/
noncomputable def Try.pinned : Pinned := { name := "ytgaaocndjaoihaa", sum := "a6275844c719bc3780c9f6a5365fc064e70db1da7bb923f13017b33cd5ef501b", checked := Try.checked }
namespace Rows
def none {H : Type} : Left H := { results := [], args := [] }

/-- 'hibernaclelaw10.ChansHold': WHATEVER THE INPUT: true; the input reads as it did. -/
def chansHoldSpec : ChangeSpec := { name := "chansHold", fn := fun _ => fun
  | [d1, d2] => { results := [.lit (.bool true)], args := [d1, d2] }
  | _ => none }
def chansHoldRow : OpenClaim := { program := "ytgaaocndjaoihaa", sum := "a6275844c719bc3780c9f6a5365fc064e70db1da7bb923f13017b33cd5ef501b", func := "hibernacle/hibernaclelaw10.ChansHold", spec := "chansHold", unfollowed := true, recurses := true, apart := false }
def ChansHoldSaid : Prop := chansHoldRow.holds Try.pinned (OpenSpec.ofChange chansHoldSpec)

/-- ITS FALSE NEIGHBOUR: 'it returns false'. Refute it at one input. -/
def chansHoldWrong : ChangeSpec := { name := "chansHold", fn := fun _ => fun
  | [d1, d2] => { results := [.lit (.bool false)], args := [d1, d2] }
  | _ => none }
def ChansHoldWrongFalsely : Prop := chansHoldRow.holds Try.pinned (OpenSpec.ofChange chansHoldWrong)

/-- 'hibernaclelaw10.ChansRow': WHATEVER THE INPUT: true; the input reads as it did. -/
def chansRowSpec : ChangeSpec := { name := "chansRow", fn := fun _ => fun
  | [d1, d2] => { results := [.lit (.bool true)], args := [d1, d2] }
  | _ => none }
def chansRowRow : OpenClaim := { program := "ytgaaocndjaoihaa", sum := "a6275844c719bc3780c9f6a5365fc064e70db1da7bb923f13017b33cd5ef501b", func := "hibernacle/hibernaclelaw10.ChansRow", spec := "chansRow", unfollowed := true, recurses := true, apart := false }
def ChansRowSaid : Prop := chansRowRow.holds Try.pinned (OpenSpec.ofChange chansRowSpec)

/-- ITS FALSE NEIGHBOUR: 'it returns false'. Refute it at one input. -/
def chansRowWrong : ChangeSpec := { name := "chansRow", fn := fun _ => fun
  | [d1, d2] => { results := [.lit (.bool false)], args := [d1, d2] }
  | _ => none }
def ChansRowWrongFalsely : Prop := chansRowRow.holds Try.pinned (OpenSpec.ofChange chansRowWrong)

/-- 'hibernaclelaw10.ChansChoice': WHATEVER THE INPUT: true; the input reads as it did. -/
def chansChoiceSpec : ChangeSpec := { name := "chansChoice", fn := fun _ => fun
  | [d1, d2, d3, d4] => { results := [.lit (.bool true)], args := [d1, d2, d3, d4] }
  | _ => none }
def chansChoiceRow : OpenClaim := { program := "ytgaaocndjaoihaa", sum := "a6275844c719bc3780c9f6a5365fc064e70db1da7bb923f13017b33cd5ef501b", func := "hibernacle/hibernaclelaw10.ChansChoice", spec := "chansChoice", unfollowed := true, recurses := true, apart := false }
def ChansChoiceSaid : Prop := chansChoiceRow.holds Try.pinned (OpenSpec.ofChange chansChoiceSpec)

/-- ITS FALSE NEIGHBOUR: 'it returns false'. Refute it at one input. -/
def chansChoiceWrong : ChangeSpec := { name := "chansChoice", fn := fun _ => fun
  | [d1, d2, d3, d4] => { results := [.lit (.bool false)], args := [d1, d2, d3, d4] }
  | _ => none }
def ChansChoiceWrongFalsely : Prop := chansChoiceRow.holds Try.pinned (OpenSpec.ofChange chansChoiceWrong)

/-- 'hibernaclelaw10.ChansPlay': WHATEVER THE INPUT: true; the input reads as it did. -/
def chansPlaySpec : ChangeSpec := { name := "chansPlay", fn := fun _ => fun
  | [d1, d2] => { results := [.lit (.bool true)], args := [d1, d2] }
  | _ => none }
def chansPlayRow : OpenClaim := { program := "ytgaaocndjaoihaa", sum := "a6275844c719bc3780c9f6a5365fc064e70db1da7bb923f13017b33cd5ef501b", func := "hibernacle/hibernaclelaw10.ChansPlay", spec := "chansPlay", unfollowed := true, recurses := true, apart := false }
def ChansPlaySaid : Prop := chansPlayRow.holds Try.pinned (OpenSpec.ofChange chansPlaySpec)

/-- ITS FALSE NEIGHBOUR: 'it returns false'. Refute it at one input. -/
def chansPlayWrong : ChangeSpec := { name := "chansPlay", fn := fun _ => fun
  | [d1, d2] => { results := [.lit (.bool false)], args := [d1, d2] }
  | _ => none }
def ChansPlayWrongFalsely : Prop := chansPlayRow.holds Try.pinned (OpenSpec.ofChange chansPlayWrong)

/-- 'hibernaclelaw10.ChansMeet': WHATEVER THE INPUT: true; the input reads as it did. -/
def chansMeetSpec : ChangeSpec := { name := "chansMeet", fn := fun _ => fun
  | [d1, d2, d3] => { results := [.lit (.bool true)], args := [d1, d2, d3] }
  | _ => none }
def chansMeetRow : OpenClaim := { program := "ytgaaocndjaoihaa", sum := "a6275844c719bc3780c9f6a5365fc064e70db1da7bb923f13017b33cd5ef501b", func := "hibernacle/hibernaclelaw10.ChansMeet", spec := "chansMeet", unfollowed := true, recurses := true, apart := false }
def ChansMeetSaid : Prop := chansMeetRow.holds Try.pinned (OpenSpec.ofChange chansMeetSpec)

/-- ITS FALSE NEIGHBOUR: 'it returns false'. Refute it at one input. -/
def chansMeetWrong : ChangeSpec := { name := "chansMeet", fn := fun _ => fun
  | [d1, d2, d3] => { results := [.lit (.bool false)], args := [d1, d2, d3] }
  | _ => none }
def ChansMeetWrongFalsely : Prop := chansMeetRow.holds Try.pinned (OpenSpec.ofChange chansMeetWrong)

/- THE SECOND FORM. 'bulk': how many values and letters a reading holds, each counted each time it is reached (what is shared counts as often as it is met; a slice's spare places count too). A statement '..UptoSaid' is the law's where the arguments, and the package variables that the reading takes, are together of bulk at most 1048576: NARROWER than '..Said'. Prove '..Said' where nothing that the law and all that it calls make is longer than what came in: it says more and counts as full. Else prove '..UptoSaid'. A law counts once. -/
mutual
def uptoBulk {H : Type} : DataW H → Nat
  | .lit (.string bytes) => bytes.length + 1
  | .lit _ => 1
  | .nil => 1
  | .ptr d => uptoBulk d + 1
  | .slice elems spare => uptoBulkAll elems + uptoBulkAll spare + 1
  | .agg parts => uptoBulkAll parts + 1
  | .iface _ d => uptoBulk d + 1
  | .map entries => uptoBulkEntries entries + 1
  | .held _ => 1
def uptoBulkAll {H : Type} : List (DataW H) → Nat
  | [] => 0
  | d :: r => uptoBulk d + uptoBulkAll r
def uptoBulkEntries {H : Type} : List (Lit × DataW H) → Nat
  | [] => 0
  | x :: r => uptoBulkEntry x + uptoBulkEntries r
def uptoBulkEntry {H : Type} : Lit × DataW H → Nat
  | (.string bytes, d) => bytes.length + uptoBulk d + 1
  | (_, d) => uptoBulk d + 1
 end
def uptoSmall : (H : Type) → List (DataW H) → Bool := fun _ ds => decide (uptoBulkAll ds ≤ 1048576)
def OpenSpec.upto (s : _root_.Go.ChangeSpec) : _root_.Go.OpenSpec := { _root_.Go.OpenSpec.ofChange s with cond := some uptoSmall }

/-- 'hibernaclelaw10.ChansHold', WHERE WHAT IT READS IS OF BULK AT MOST 1048576: true; the input reads as it did. -/
def chansHoldUptoRow : OpenClaim := { program := "ytgaaocndjaoihaa", sum := "a6275844c719bc3780c9f6a5365fc064e70db1da7bb923f13017b33cd5ef501b", func := "hibernacle/hibernaclelaw10.ChansHold", spec := "chansHold", unfollowed := true, recurses := true, apart := false, narrowed := true }
def ChansHoldUptoSaid : Prop := chansHoldUptoRow.holds Try.pinned (OpenSpec.upto chansHoldSpec)

/-- 'hibernaclelaw10.ChansRow', WHERE WHAT IT READS IS OF BULK AT MOST 1048576: true; the input reads as it did. -/
def chansRowUptoRow : OpenClaim := { program := "ytgaaocndjaoihaa", sum := "a6275844c719bc3780c9f6a5365fc064e70db1da7bb923f13017b33cd5ef501b", func := "hibernacle/hibernaclelaw10.ChansRow", spec := "chansRow", unfollowed := true, recurses := true, apart := false, narrowed := true }
def ChansRowUptoSaid : Prop := chansRowUptoRow.holds Try.pinned (OpenSpec.upto chansRowSpec)

/-- 'hibernaclelaw10.ChansChoice', WHERE WHAT IT READS IS OF BULK AT MOST 1048576: true; the input reads as it did. -/
def chansChoiceUptoRow : OpenClaim := { program := "ytgaaocndjaoihaa", sum := "a6275844c719bc3780c9f6a5365fc064e70db1da7bb923f13017b33cd5ef501b", func := "hibernacle/hibernaclelaw10.ChansChoice", spec := "chansChoice", unfollowed := true, recurses := true, apart := false, narrowed := true }
def ChansChoiceUptoSaid : Prop := chansChoiceUptoRow.holds Try.pinned (OpenSpec.upto chansChoiceSpec)

/-- 'hibernaclelaw10.ChansPlay', WHERE WHAT IT READS IS OF BULK AT MOST 1048576: true; the input reads as it did. -/
def chansPlayUptoRow : OpenClaim := { program := "ytgaaocndjaoihaa", sum := "a6275844c719bc3780c9f6a5365fc064e70db1da7bb923f13017b33cd5ef501b", func := "hibernacle/hibernaclelaw10.ChansPlay", spec := "chansPlay", unfollowed := true, recurses := true, apart := false, narrowed := true }
def ChansPlayUptoSaid : Prop := chansPlayUptoRow.holds Try.pinned (OpenSpec.upto chansPlaySpec)

/-- 'hibernaclelaw10.ChansMeet', WHERE WHAT IT READS IS OF BULK AT MOST 1048576: true; the input reads as it did. -/
def chansMeetUptoRow : OpenClaim := { program := "ytgaaocndjaoihaa", sum := "a6275844c719bc3780c9f6a5365fc064e70db1da7bb923f13017b33cd5ef501b", func := "hibernacle/hibernaclelaw10.ChansMeet", spec := "chansMeet", unfollowed := true, recurses := true, apart := false, narrowed := true }
def ChansMeetUptoSaid : Prop := chansMeetUptoRow.holds Try.pinned (OpenSpec.upto chansMeetSpec)

end Rows
end Go.Proofs.Ytgaaocndjaoihaa
