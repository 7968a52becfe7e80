/-
  No cell of these rows narrows 'for every input' (looked for: loops, veiled, ifaces, maps, wideKeys, modest, calm, conditions, laid).
  DERIVED. THE GIVEN ROWS OF THIS SEAT. 5 by the template 'for every input the law returns true; each argument reads behind the call as it read before'; 0 by the template 'total and deterministic' (their statements: YtgmpekkoffkphaaTotals.lean).
  GIVEN WITH THE SEED: the statements are not yours to turn. If you find one false, say at which input.
  Laid BY PROGRAM, IN A SANDBOX (cutbox-rows.mjs): the forced cells as the released guide's own fill.sh prints them over the translation d98b061d6bb8d7da… (all of the seat's roots in one cut). By AI agents, Wed Nov 11 2026. No macro, syntax, notation, axiom, sorry.
-/
import Derived.Test.YtgmpekkoffkphaaChecked
import GoSem.Claim
import GoSem.ClaimJoined
import GoSem.ClaimMapViews
import Derived.JoinedTies
import Derived.KernelRfl
namespace Go.Proofs.Ytgmpekkoffkphaa
/- THE CELL 'sum', in the pinned program and in every row, IS THE sha256 OF THE DUMP (.gsa) THAT YtgmpekkoffkphaaProg.lean LOADS. Nothing in Lean hashes anything: it is a label: what it is worth is what the hold of that sum in a sandbox is worth. -/
noncomputable def Try.pinned : Pinned := { name := "ytgmpekkoffkphaa", sum := "d98b061d6bb8d7da1000e030f0f7eb60ed0339dba0199a381a2e477e72c5e936", checked := Try.checked }
namespace Rows
def none {H : Type} : Left H := { results := [], args := [] }

/-- 'braidworklaw17.PolicyPairs': WHATEVER THE INPUT: true; the input reads as it did. -/
def policyPairsSpec : ChangeSpec := { name := "policyPairs", fn := fun _ => fun
  | [d1, d2] => { results := [.lit (.bool true)], args := [d1, d2] }
  | _ => none }
def policyPairsRow : OpenClaim := { program := "ytgmpekkoffkphaa", sum := "d98b061d6bb8d7da1000e030f0f7eb60ed0339dba0199a381a2e477e72c5e936", func := "braidwork/braidworklaw17.PolicyPairs", spec := "policyPairs", unfollowed := true, recurses := true, apart := false }
def PolicyPairsSaid : Prop := policyPairsRow.holds Try.pinned (OpenSpec.ofChange policyPairsSpec)

/-- ITS FALSE NEIGHBOUR: 'it returns false'. Refute it at one input. -/
def policyPairsWrong : ChangeSpec := { name := "policyPairs", fn := fun _ => fun
  | [d1, d2] => { results := [.lit (.bool false)], args := [d1, d2] }
  | _ => none }
def PolicyPairsWrongFalsely : Prop := policyPairsRow.holds Try.pinned (OpenSpec.ofChange policyPairsWrong)

/-- 'braidworklaw17.PolicyFractions': WHATEVER THE INPUT: true; the input reads as it did. -/
def policyFractionsSpec : ChangeSpec := { name := "policyFractions", fn := fun _ => fun
  | [d1, d2] => { results := [.lit (.bool true)], args := [d1, d2] }
  | _ => none }
def policyFractionsRow : OpenClaim := { program := "ytgmpekkoffkphaa", sum := "d98b061d6bb8d7da1000e030f0f7eb60ed0339dba0199a381a2e477e72c5e936", func := "braidwork/braidworklaw17.PolicyFractions", spec := "policyFractions", unfollowed := true, recurses := true, apart := false }
def PolicyFractionsSaid : Prop := policyFractionsRow.holds Try.pinned (OpenSpec.ofChange policyFractionsSpec)

/-- ITS FALSE NEIGHBOUR: 'it returns false'. Refute it at one input. -/
def policyFractionsWrong : ChangeSpec := { name := "policyFractions", fn := fun _ => fun
  | [d1, d2] => { results := [.lit (.bool false)], args := [d1, d2] }
  | _ => none }
def PolicyFractionsWrongFalsely : Prop := policyFractionsRow.holds Try.pinned (OpenSpec.ofChange policyFractionsWrong)

/-- 'braidworklaw17.PolicySpreads': WHATEVER THE INPUT: true; the input reads as it did. -/
def policySpreadsSpec : ChangeSpec := { name := "policySpreads", fn := fun _ => fun
  | [d1, d2, d3] => { results := [.lit (.bool true)], args := [d1, d2, d3] }
  | _ => none }
def policySpreadsRow : OpenClaim := { program := "ytgmpekkoffkphaa", sum := "d98b061d6bb8d7da1000e030f0f7eb60ed0339dba0199a381a2e477e72c5e936", func := "braidwork/braidworklaw17.PolicySpreads", spec := "policySpreads", unfollowed := true, recurses := true, apart := false }
def PolicySpreadsSaid : Prop := policySpreadsRow.holds Try.pinned (OpenSpec.ofChange policySpreadsSpec)

/-- ITS FALSE NEIGHBOUR: 'it returns false'. Refute it at one input. -/
def policySpreadsWrong : ChangeSpec := { name := "policySpreads", fn := fun _ => fun
  | [d1, d2, d3] => { results := [.lit (.bool false)], args := [d1, d2, d3] }
  | _ => none }
def PolicySpreadsWrongFalsely : Prop := policySpreadsRow.holds Try.pinned (OpenSpec.ofChange policySpreadsWrong)

/-- 'braidworklaw17.PolicyOrder': WHATEVER THE INPUT: true; the input reads as it did. -/
def policyOrderSpec : ChangeSpec := { name := "policyOrder", fn := fun _ => fun
  | [d1, d2, d3, d4, d5] => { results := [.lit (.bool true)], args := [d1, d2, d3, d4, d5] }
  | _ => none }
def policyOrderRow : OpenClaim := { program := "ytgmpekkoffkphaa", sum := "d98b061d6bb8d7da1000e030f0f7eb60ed0339dba0199a381a2e477e72c5e936", func := "braidwork/braidworklaw17.PolicyOrder", spec := "policyOrder", unfollowed := true, recurses := true, apart := false }
def PolicyOrderSaid : Prop := policyOrderRow.holds Try.pinned (OpenSpec.ofChange policyOrderSpec)

/-- ITS FALSE NEIGHBOUR: 'it returns false'. Refute it at one input. -/
def policyOrderWrong : ChangeSpec := { name := "policyOrder", fn := fun _ => fun
  | [d1, d2, d3, d4, d5] => { results := [.lit (.bool false)], args := [d1, d2, d3, d4, d5] }
  | _ => none }
def PolicyOrderWrongFalsely : Prop := policyOrderRow.holds Try.pinned (OpenSpec.ofChange policyOrderWrong)

/-- 'braidworklaw17.PolicyEnds': WHATEVER THE INPUT: true; the input reads as it did. -/
def policyEndsSpec : ChangeSpec := { name := "policyEnds", fn := fun _ => fun
  | [d] => { results := [.lit (.bool true)], args := [d] }
  | _ => none }
def policyEndsRow : OpenClaim := { program := "ytgmpekkoffkphaa", sum := "d98b061d6bb8d7da1000e030f0f7eb60ed0339dba0199a381a2e477e72c5e936", func := "braidwork/braidworklaw17.PolicyEnds", spec := "policyEnds", unfollowed := true, recurses := true, apart := false }
def PolicyEndsSaid : Prop := policyEndsRow.holds Try.pinned (OpenSpec.ofChange policyEndsSpec)

/-- ITS FALSE NEIGHBOUR: 'it returns false'. Refute it at one input. -/
def policyEndsWrong : ChangeSpec := { name := "policyEnds", fn := fun _ => fun
  | [d] => { results := [.lit (.bool false)], args := [d] }
  | _ => none }
def PolicyEndsWrongFalsely : Prop := policyEndsRow.holds Try.pinned (OpenSpec.ofChange policyEndsWrong)

/- THE SECOND FORM. 'bulk': how many values and letters a reading holds, each counted each time it is reached (what is shared counts as often as it is met; a slice's spare places count too). A statement '..UptoSaid' is the law's where the arguments, and the package variables that the reading takes, are together of bulk at most 1048576: NARROWER than '..Said'. Prove '..Said' where nothing that the law and all that it calls make is longer than what came in: it says more and counts as full. Else prove '..UptoSaid'. A law counts once. -/
mutual
def uptoBulk {H : Type} : DataW H → Nat
  | .lit (.string bytes) => bytes.length + 1
  | .lit _ => 1
  | .nil => 1
  | .ptr d => uptoBulk d + 1
  | .slice elems spare => uptoBulkAll elems + uptoBulkAll spare + 1
  | .agg parts => uptoBulkAll parts + 1
  | .iface _ d => uptoBulk d + 1
  | .map entries => uptoBulkEntries entries + 1
  | .held _ => 1
def uptoBulkAll {H : Type} : List (DataW H) → Nat
  | [] => 0
  | d :: r => uptoBulk d + uptoBulkAll r
def uptoBulkEntries {H : Type} : List (Lit × DataW H) → Nat
  | [] => 0
  | x :: r => uptoBulkEntry x + uptoBulkEntries r
def uptoBulkEntry {H : Type} : Lit × DataW H → Nat
  | (.string bytes, d) => bytes.length + uptoBulk d + 1
  | (_, d) => uptoBulk d + 1
 end
def uptoSmall : (H : Type) → List (DataW H) → Bool := fun _ ds => decide (uptoBulkAll ds ≤ 1048576)
def OpenSpec.upto (s : _root_.Go.ChangeSpec) : _root_.Go.OpenSpec := { _root_.Go.OpenSpec.ofChange s with cond := some uptoSmall }

/-- 'braidworklaw17.PolicyPairs', WHERE WHAT IT READS IS OF BULK AT MOST 1048576: true; the input reads as it did. -/
def policyPairsUptoRow : OpenClaim := { program := "ytgmpekkoffkphaa", sum := "d98b061d6bb8d7da1000e030f0f7eb60ed0339dba0199a381a2e477e72c5e936", func := "braidwork/braidworklaw17.PolicyPairs", spec := "policyPairs", unfollowed := true, recurses := true, apart := false, narrowed := true }
def PolicyPairsUptoSaid : Prop := policyPairsUptoRow.holds Try.pinned (OpenSpec.upto policyPairsSpec)

/-- 'braidworklaw17.PolicyFractions', WHERE WHAT IT READS IS OF BULK AT MOST 1048576: true; the input reads as it did. -/
def policyFractionsUptoRow : OpenClaim := { program := "ytgmpekkoffkphaa", sum := "d98b061d6bb8d7da1000e030f0f7eb60ed0339dba0199a381a2e477e72c5e936", func := "braidwork/braidworklaw17.PolicyFractions", spec := "policyFractions", unfollowed := true, recurses := true, apart := false, narrowed := true }
def PolicyFractionsUptoSaid : Prop := policyFractionsUptoRow.holds Try.pinned (OpenSpec.upto policyFractionsSpec)

/-- 'braidworklaw17.PolicySpreads', WHERE WHAT IT READS IS OF BULK AT MOST 1048576: true; the input reads as it did. -/
def policySpreadsUptoRow : OpenClaim := { program := "ytgmpekkoffkphaa", sum := "d98b061d6bb8d7da1000e030f0f7eb60ed0339dba0199a381a2e477e72c5e936", func := "braidwork/braidworklaw17.PolicySpreads", spec := "policySpreads", unfollowed := true, recurses := true, apart := false, narrowed := true }
def PolicySpreadsUptoSaid : Prop := policySpreadsUptoRow.holds Try.pinned (OpenSpec.upto policySpreadsSpec)

/-- 'braidworklaw17.PolicyOrder', WHERE WHAT IT READS IS OF BULK AT MOST 1048576: true; the input reads as it did. -/
def policyOrderUptoRow : OpenClaim := { program := "ytgmpekkoffkphaa", sum := "d98b061d6bb8d7da1000e030f0f7eb60ed0339dba0199a381a2e477e72c5e936", func := "braidwork/braidworklaw17.PolicyOrder", spec := "policyOrder", unfollowed := true, recurses := true, apart := false, narrowed := true }
def PolicyOrderUptoSaid : Prop := policyOrderUptoRow.holds Try.pinned (OpenSpec.upto policyOrderSpec)

/-- 'braidworklaw17.PolicyEnds', WHERE WHAT IT READS IS OF BULK AT MOST 1048576: true; the input reads as it did. -/
def policyEndsUptoRow : OpenClaim := { program := "ytgmpekkoffkphaa", sum := "d98b061d6bb8d7da1000e030f0f7eb60ed0339dba0199a381a2e477e72c5e936", func := "braidwork/braidworklaw17.PolicyEnds", spec := "policyEnds", unfollowed := true, recurses := true, apart := false, narrowed := true }
def PolicyEndsUptoSaid : Prop := policyEndsUptoRow.holds Try.pinned (OpenSpec.upto policyEndsSpec)

end Rows
end Go.Proofs.Ytgmpekkoffkphaa
