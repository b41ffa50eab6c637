/-
  No cell of these rows narrows 'for every input' (looked for: loops, veiled, ifaces, maps, wideKeys, modest, calm, conditions, laid).
  DERIVED. THE GIVEN ROWS OF THIS SEAT. 3 by the template 'for every input the law returns true; each argument reads behind the call as it read before'; 0 by the template 'total and deterministic' (their statements: YtdnbmcnckojglaaGreatTotals.lean).
  GIVEN WITH THE SEED: the statements are not yours to turn. If you find one false, say at which input.
  Laid BY PROGRAM, IN A SANDBOX (cutbox-rows.mjs): the forced cells as the released guide's own fill.sh prints them over the translation cf76762d7e10fcf9… (all of the seat's roots in one cut). By AI agents, Wed Nov 11 2026. No macro, syntax, notation, axiom, sorry.
-/
import Derived.Test.YtdnbmcnckojglaaGreatChecked
import GoSem.Claim
import GoSem.ClaimJoined
import GoSem.ClaimMapViews
import Derived.JoinedTies
import Derived.KernelRfl
namespace Go.Proofs.YtdnbmcnckojglaaGreat
/- THE CELL 'sum', in the pinned program and in every row, IS THE sha256 OF THE DUMP (.gsa) THAT YtdnbmcnckojglaaGreatProg.lean LOADS. Nothing in Lean hashes anything: it is a label: what it is worth is what the hold of that sum in a sandbox is worth. -/
noncomputable def Tryz.pinned : Pinned := { name := "ytdnbmcnckojglaagreat", sum := "cf76762d7e10fcf97593f6692f9e5a2a2d4811bd3caa981bbb4c45c61b1f5f99", checked := Tryz.checked }
namespace Rows
def none {H : Type} : Left H := { results := [], args := [] }

/-- 'hibernaclelaw18.VerifyRules': WHATEVER THE INPUT: true; the input reads as it did. -/
def verifyRulesSpec : ChangeSpec := { name := "verifyRules", fn := fun _ => fun
  | [d1, d2, d3, d4, d5] => { results := [.lit (.bool true)], args := [d1, d2, d3, d4, d5] }
  | _ => none }
def verifyRulesRow : OpenClaim := { program := "ytdnbmcnckojglaagreat", sum := "cf76762d7e10fcf97593f6692f9e5a2a2d4811bd3caa981bbb4c45c61b1f5f99", func := "hibernacle/hibernaclelaw18.VerifyRules", spec := "verifyRules", unfollowed := true, recurses := true, apart := false }
def VerifyRulesSaid : Prop := verifyRulesRow.holds Tryz.pinned (OpenSpec.ofChange verifyRulesSpec)

/-- ITS FALSE NEIGHBOUR: 'it returns false'. Refute it at one input. -/
def verifyRulesWrong : ChangeSpec := { name := "verifyRules", fn := fun _ => fun
  | [d1, d2, d3, d4, d5] => { results := [.lit (.bool false)], args := [d1, d2, d3, d4, d5] }
  | _ => none }
def VerifyRulesWrongFalsely : Prop := verifyRulesRow.holds Tryz.pinned (OpenSpec.ofChange verifyRulesWrong)

/-- 'hibernaclelaw18.VerifyFits': WHATEVER THE INPUT: true; the input reads as it did. -/
def verifyFitsSpec : ChangeSpec := { name := "verifyFits", fn := fun _ => fun
  | [d1, d2, d3] => { results := [.lit (.bool true)], args := [d1, d2, d3] }
  | _ => none }
def verifyFitsRow : OpenClaim := { program := "ytdnbmcnckojglaagreat", sum := "cf76762d7e10fcf97593f6692f9e5a2a2d4811bd3caa981bbb4c45c61b1f5f99", func := "hibernacle/hibernaclelaw18.VerifyFits", spec := "verifyFits", unfollowed := true, recurses := true, apart := false }
def VerifyFitsSaid : Prop := verifyFitsRow.holds Tryz.pinned (OpenSpec.ofChange verifyFitsSpec)

/-- ITS FALSE NEIGHBOUR: 'it returns false'. Refute it at one input. -/
def verifyFitsWrong : ChangeSpec := { name := "verifyFits", fn := fun _ => fun
  | [d1, d2, d3] => { results := [.lit (.bool false)], args := [d1, d2, d3] }
  | _ => none }
def VerifyFitsWrongFalsely : Prop := verifyFitsRow.holds Tryz.pinned (OpenSpec.ofChange verifyFitsWrong)

/-- 'hibernaclelaw18.VerifyFiles': WHATEVER THE INPUT: true; the input reads as it did. -/
def verifyFilesSpec : ChangeSpec := { name := "verifyFiles", fn := fun _ => fun
  | [d1, d2, d3, d4, d5, d6] => { results := [.lit (.bool true)], args := [d1, d2, d3, d4, d5, d6] }
  | _ => none }
def verifyFilesRow : OpenClaim := { program := "ytdnbmcnckojglaagreat", sum := "cf76762d7e10fcf97593f6692f9e5a2a2d4811bd3caa981bbb4c45c61b1f5f99", func := "hibernacle/hibernaclelaw18.VerifyFiles", spec := "verifyFiles", unfollowed := true, recurses := true, apart := false }
def VerifyFilesSaid : Prop := verifyFilesRow.holds Tryz.pinned (OpenSpec.ofChange verifyFilesSpec)

/-- ITS FALSE NEIGHBOUR: 'it returns false'. Refute it at one input. -/
def verifyFilesWrong : ChangeSpec := { name := "verifyFiles", fn := fun _ => fun
  | [d1, d2, d3, d4, d5, d6] => { results := [.lit (.bool false)], args := [d1, d2, d3, d4, d5, d6] }
  | _ => none }
def VerifyFilesWrongFalsely : Prop := verifyFilesRow.holds Tryz.pinned (OpenSpec.ofChange verifyFilesWrong)

/- THE SECOND FORM. 'bulk': how many values and letters a reading holds, each counted each time it is reached (what is shared counts as often as it is met; a slice's spare places count too). A statement '..UptoSaid' is the law's where the arguments, and the package variables that the reading takes, are together of bulk at most 1048576: NARROWER than '..Said'. Prove '..Said' where nothing that the law and all that it calls make is longer than what came in: it says more and counts as full. Else prove '..UptoSaid'. A law counts once. -/
mutual
def uptoBulk {H : Type} : DataW H → Nat
  | .lit (.string bytes) => bytes.length + 1
  | .lit _ => 1
  | .nil => 1
  | .ptr d => uptoBulk d + 1
  | .slice elems spare => uptoBulkAll elems + uptoBulkAll spare + 1
  | .agg parts => uptoBulkAll parts + 1
  | .iface _ d => uptoBulk d + 1
  | .map entries => uptoBulkEntries entries + 1
  | .held _ => 1
def uptoBulkAll {H : Type} : List (DataW H) → Nat
  | [] => 0
  | d :: r => uptoBulk d + uptoBulkAll r
def uptoBulkEntries {H : Type} : List (Lit × DataW H) → Nat
  | [] => 0
  | x :: r => uptoBulkEntry x + uptoBulkEntries r
def uptoBulkEntry {H : Type} : Lit × DataW H → Nat
  | (.string bytes, d) => bytes.length + uptoBulk d + 1
  | (_, d) => uptoBulk d + 1
 end
def uptoSmall : (H : Type) → List (DataW H) → Bool := fun _ ds => decide (uptoBulkAll ds ≤ 1048576)
def OpenSpec.upto (s : _root_.Go.ChangeSpec) : _root_.Go.OpenSpec := { _root_.Go.OpenSpec.ofChange s with cond := some uptoSmall }

/-- 'hibernaclelaw18.VerifyRules', WHERE WHAT IT READS IS OF BULK AT MOST 1048576: true; the input reads as it did. -/
def verifyRulesUptoRow : OpenClaim := { program := "ytdnbmcnckojglaagreat", sum := "cf76762d7e10fcf97593f6692f9e5a2a2d4811bd3caa981bbb4c45c61b1f5f99", func := "hibernacle/hibernaclelaw18.VerifyRules", spec := "verifyRules", unfollowed := true, recurses := true, apart := false, narrowed := true }
def VerifyRulesUptoSaid : Prop := verifyRulesUptoRow.holds Tryz.pinned (OpenSpec.upto verifyRulesSpec)

/-- 'hibernaclelaw18.VerifyFits', WHERE WHAT IT READS IS OF BULK AT MOST 1048576: true; the input reads as it did. -/
def verifyFitsUptoRow : OpenClaim := { program := "ytdnbmcnckojglaagreat", sum := "cf76762d7e10fcf97593f6692f9e5a2a2d4811bd3caa981bbb4c45c61b1f5f99", func := "hibernacle/hibernaclelaw18.VerifyFits", spec := "verifyFits", unfollowed := true, recurses := true, apart := false, narrowed := true }
def VerifyFitsUptoSaid : Prop := verifyFitsUptoRow.holds Tryz.pinned (OpenSpec.upto verifyFitsSpec)

/-- 'hibernaclelaw18.VerifyFiles', WHERE WHAT IT READS IS OF BULK AT MOST 1048576: true; the input reads as it did. -/
def verifyFilesUptoRow : OpenClaim := { program := "ytdnbmcnckojglaagreat", sum := "cf76762d7e10fcf97593f6692f9e5a2a2d4811bd3caa981bbb4c45c61b1f5f99", func := "hibernacle/hibernaclelaw18.VerifyFiles", spec := "verifyFiles", unfollowed := true, recurses := true, apart := false, narrowed := true }
def VerifyFilesUptoSaid : Prop := verifyFilesUptoRow.holds Tryz.pinned (OpenSpec.upto verifyFilesSpec)

end Rows
end Go.Proofs.YtdnbmcnckojglaaGreat
