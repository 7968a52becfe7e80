/-
  No cell of these rows narrows 'for every input' (looked for: loops, veiled, ifaces, maps, wideKeys, modest, calm, conditions, laid).
  DERIVED. THE GIVEN ROWS OF THIS SEAT. 5 by the template 'for every input the law returns true; each argument reads behind the call as it read before'; 0 by the template 'total and deterministic' (their statements: YtpmhhfphbackdaaTotals.lean).
  GIVEN WITH THE SEED: the statements are not yours to turn. If you find one false, say at which input.
  Laid BY PROGRAM, IN A SANDBOX (cutbox-rows.mjs): the forced cells as the released guide's own fill.sh prints them over the translation a57c89a4e124b7d0… (all of the seat's roots in one cut). By AI agents, Wed Nov 11 2026. No macro, syntax, notation, axiom, sorry.
-/
import Derived.Test.YtpmhhfphbackdaaChecked
import GoSem.Claim
import GoSem.ClaimJoined
import GoSem.ClaimMapViews
import Derived.JoinedTies
import Derived.KernelRfl
namespace Go.Proofs.Ytpmhhfphbackdaa
/- THE CELL 'sum', in the pinned program and in every row, IS THE sha256 OF THE DUMP (.gsa) THAT YtpmhhfphbackdaaProg.lean LOADS. Nothing in Lean hashes anything: it is a label: what it is worth is what the hold of that sum in a sandbox is worth. -/
noncomputable def Try.pinned : Pinned := { name := "ytpmhhfphbackdaa", sum := "a57c89a4e124b7d0a1c6b31522928ab7c59d2becce506a3c75680e23fbfa8f74", checked := Try.checked }
namespace Rows
def none {H : Type} : Left H := { results := [], args := [] }

/-- 'braidworklaw11.ParityBuilds': WHATEVER THE INPUT: true; the input reads as it did. -/
def parityBuildsSpec : ChangeSpec := { name := "parityBuilds", fn := fun _ => fun
  | [d1, d2, d3, d4, d5] => { results := [.lit (.bool true)], args := [d1, d2, d3, d4, d5] }
  | _ => none }
def parityBuildsRow : OpenClaim := { program := "ytpmhhfphbackdaa", sum := "a57c89a4e124b7d0a1c6b31522928ab7c59d2becce506a3c75680e23fbfa8f74", func := "braidwork/braidworklaw11.ParityBuilds", spec := "parityBuilds", apart := false }
def ParityBuildsSaid : Prop := parityBuildsRow.holds Try.pinned (OpenSpec.ofChange parityBuildsSpec)

/-- ITS FALSE NEIGHBOUR: 'it returns false'. Refute it at one input. -/
def parityBuildsWrong : ChangeSpec := { name := "parityBuilds", fn := fun _ => fun
  | [d1, d2, d3, d4, d5] => { results := [.lit (.bool false)], args := [d1, d2, d3, d4, d5] }
  | _ => none }
def ParityBuildsWrongFalsely : Prop := parityBuildsRow.holds Try.pinned (OpenSpec.ofChange parityBuildsWrong)

/-- 'braidworklaw11.ParityBack': WHATEVER THE INPUT: true; the input reads as it did. -/
def parityBackSpec : ChangeSpec := { name := "parityBack", fn := fun _ => fun
  | [d1, d2, d3] => { results := [.lit (.bool true)], args := [d1, d2, d3] }
  | _ => none }
def parityBackRow : OpenClaim := { program := "ytpmhhfphbackdaa", sum := "a57c89a4e124b7d0a1c6b31522928ab7c59d2becce506a3c75680e23fbfa8f74", func := "braidwork/braidworklaw11.ParityBack", spec := "parityBack", apart := false }
def ParityBackSaid : Prop := parityBackRow.holds Try.pinned (OpenSpec.ofChange parityBackSpec)

/-- ITS FALSE NEIGHBOUR: 'it returns false'. Refute it at one input. -/
def parityBackWrong : ChangeSpec := { name := "parityBack", fn := fun _ => fun
  | [d1, d2, d3] => { results := [.lit (.bool false)], args := [d1, d2, d3] }
  | _ => none }
def ParityBackWrongFalsely : Prop := parityBackRow.holds Try.pinned (OpenSpec.ofChange parityBackWrong)

/-- 'braidworklaw11.ParityOrder': WHATEVER THE INPUT: true; the input reads as it did. -/
def parityOrderSpec : ChangeSpec := { name := "parityOrder", fn := fun _ => fun
  | [d1, d2] => { results := [.lit (.bool true)], args := [d1, d2] }
  | _ => none }
def parityOrderRow : OpenClaim := { program := "ytpmhhfphbackdaa", sum := "a57c89a4e124b7d0a1c6b31522928ab7c59d2becce506a3c75680e23fbfa8f74", func := "braidwork/braidworklaw11.ParityOrder", spec := "parityOrder", apart := false }
def ParityOrderSaid : Prop := parityOrderRow.holds Try.pinned (OpenSpec.ofChange parityOrderSpec)

/-- ITS FALSE NEIGHBOUR: 'it returns false'. Refute it at one input. -/
def parityOrderWrong : ChangeSpec := { name := "parityOrder", fn := fun _ => fun
  | [d1, d2] => { results := [.lit (.bool false)], args := [d1, d2] }
  | _ => none }
def ParityOrderWrongFalsely : Prop := parityOrderRow.holds Try.pinned (OpenSpec.ofChange parityOrderWrong)

/-- 'braidworklaw11.ParityPlugs': WHATEVER THE INPUT: true; the input reads as it did. -/
def parityPlugsSpec : ChangeSpec := { name := "parityPlugs", fn := fun _ => fun
  | [d1, d2, d3] => { results := [.lit (.bool true)], args := [d1, d2, d3] }
  | _ => none }
def parityPlugsRow : OpenClaim := { program := "ytpmhhfphbackdaa", sum := "a57c89a4e124b7d0a1c6b31522928ab7c59d2becce506a3c75680e23fbfa8f74", func := "braidwork/braidworklaw11.ParityPlugs", spec := "parityPlugs", apart := false }
def ParityPlugsSaid : Prop := parityPlugsRow.holds Try.pinned (OpenSpec.ofChange parityPlugsSpec)

/-- ITS FALSE NEIGHBOUR: 'it returns false'. Refute it at one input. -/
def parityPlugsWrong : ChangeSpec := { name := "parityPlugs", fn := fun _ => fun
  | [d1, d2, d3] => { results := [.lit (.bool false)], args := [d1, d2, d3] }
  | _ => none }
def ParityPlugsWrongFalsely : Prop := parityPlugsRow.holds Try.pinned (OpenSpec.ofChange parityPlugsWrong)

/-- 'braidworklaw11.ParityAlone': WHATEVER THE INPUT: true; the input reads as it did. -/
def parityAloneSpec : ChangeSpec := { name := "parityAlone", fn := fun _ => fun
  | [d1, d2] => { results := [.lit (.bool true)], args := [d1, d2] }
  | _ => none }
def parityAloneRow : OpenClaim := { program := "ytpmhhfphbackdaa", sum := "a57c89a4e124b7d0a1c6b31522928ab7c59d2becce506a3c75680e23fbfa8f74", func := "braidwork/braidworklaw11.ParityAlone", spec := "parityAlone", apart := false }
def ParityAloneSaid : Prop := parityAloneRow.holds Try.pinned (OpenSpec.ofChange parityAloneSpec)

/-- ITS FALSE NEIGHBOUR: 'it returns false'. Refute it at one input. -/
def parityAloneWrong : ChangeSpec := { name := "parityAlone", fn := fun _ => fun
  | [d1, d2] => { results := [.lit (.bool false)], args := [d1, d2] }
  | _ => none }
def ParityAloneWrongFalsely : Prop := parityAloneRow.holds Try.pinned (OpenSpec.ofChange parityAloneWrong)

/- THE SECOND FORM. 'bulk': how many values and letters a reading holds, each counted each time it is reached (what is shared counts as often as it is met; a slice's spare places count too). A statement '..UptoSaid' is the law's where the arguments, and the package variables that the reading takes, are together of bulk at most 1048576: NARROWER than '..Said'. Prove '..Said' where nothing that the law and all that it calls make is longer than what came in: it says more and counts as full. Else prove '..UptoSaid'. A law counts once. -/
mutual
def uptoBulk {H : Type} : DataW H → Nat
  | .lit (.string bytes) => bytes.length + 1
  | .lit _ => 1
  | .nil => 1
  | .ptr d => uptoBulk d + 1
  | .slice elems spare => uptoBulkAll elems + uptoBulkAll spare + 1
  | .agg parts => uptoBulkAll parts + 1
  | .iface _ d => uptoBulk d + 1
  | .map entries => uptoBulkEntries entries + 1
  | .held _ => 1
def uptoBulkAll {H : Type} : List (DataW H) → Nat
  | [] => 0
  | d :: r => uptoBulk d + uptoBulkAll r
def uptoBulkEntries {H : Type} : List (Lit × DataW H) → Nat
  | [] => 0
  | x :: r => uptoBulkEntry x + uptoBulkEntries r
def uptoBulkEntry {H : Type} : Lit × DataW H → Nat
  | (.string bytes, d) => bytes.length + uptoBulk d + 1
  | (_, d) => uptoBulk d + 1
 end
def uptoSmall : (H : Type) → List (DataW H) → Bool := fun _ ds => decide (uptoBulkAll ds ≤ 1048576)
def OpenSpec.upto (s : _root_.Go.ChangeSpec) : _root_.Go.OpenSpec := { _root_.Go.OpenSpec.ofChange s with cond := some uptoSmall }

/-- 'braidworklaw11.ParityBuilds', WHERE WHAT IT READS IS OF BULK AT MOST 1048576: true; the input reads as it did. -/
def parityBuildsUptoRow : OpenClaim := { program := "ytpmhhfphbackdaa", sum := "a57c89a4e124b7d0a1c6b31522928ab7c59d2becce506a3c75680e23fbfa8f74", func := "braidwork/braidworklaw11.ParityBuilds", spec := "parityBuilds", apart := false, narrowed := true }
def ParityBuildsUptoSaid : Prop := parityBuildsUptoRow.holds Try.pinned (OpenSpec.upto parityBuildsSpec)

/-- 'braidworklaw11.ParityBack', WHERE WHAT IT READS IS OF BULK AT MOST 1048576: true; the input reads as it did. -/
def parityBackUptoRow : OpenClaim := { program := "ytpmhhfphbackdaa", sum := "a57c89a4e124b7d0a1c6b31522928ab7c59d2becce506a3c75680e23fbfa8f74", func := "braidwork/braidworklaw11.ParityBack", spec := "parityBack", apart := false, narrowed := true }
def ParityBackUptoSaid : Prop := parityBackUptoRow.holds Try.pinned (OpenSpec.upto parityBackSpec)

/-- 'braidworklaw11.ParityOrder', WHERE WHAT IT READS IS OF BULK AT MOST 1048576: true; the input reads as it did. -/
def parityOrderUptoRow : OpenClaim := { program := "ytpmhhfphbackdaa", sum := "a57c89a4e124b7d0a1c6b31522928ab7c59d2becce506a3c75680e23fbfa8f74", func := "braidwork/braidworklaw11.ParityOrder", spec := "parityOrder", apart := false, narrowed := true }
def ParityOrderUptoSaid : Prop := parityOrderUptoRow.holds Try.pinned (OpenSpec.upto parityOrderSpec)

/-- 'braidworklaw11.ParityPlugs', WHERE WHAT IT READS IS OF BULK AT MOST 1048576: true; the input reads as it did. -/
def parityPlugsUptoRow : OpenClaim := { program := "ytpmhhfphbackdaa", sum := "a57c89a4e124b7d0a1c6b31522928ab7c59d2becce506a3c75680e23fbfa8f74", func := "braidwork/braidworklaw11.ParityPlugs", spec := "parityPlugs", apart := false, narrowed := true }
def ParityPlugsUptoSaid : Prop := parityPlugsUptoRow.holds Try.pinned (OpenSpec.upto parityPlugsSpec)

/-- 'braidworklaw11.ParityAlone', WHERE WHAT IT READS IS OF BULK AT MOST 1048576: true; the input reads as it did. -/
def parityAloneUptoRow : OpenClaim := { program := "ytpmhhfphbackdaa", sum := "a57c89a4e124b7d0a1c6b31522928ab7c59d2becce506a3c75680e23fbfa8f74", func := "braidwork/braidworklaw11.ParityAlone", spec := "parityAlone", apart := false, narrowed := true }
def ParityAloneUptoSaid : Prop := parityAloneUptoRow.holds Try.pinned (OpenSpec.upto parityAloneSpec)

end Rows
end Go.Proofs.Ytpmhhfphbackdaa
