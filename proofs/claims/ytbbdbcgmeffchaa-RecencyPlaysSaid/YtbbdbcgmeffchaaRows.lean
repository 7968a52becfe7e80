/-
  No cell of these rows narrows 'for every input' (looked for: loops, veiled, ifaces, maps, wideKeys, modest, calm, conditions, laid).
  DERIVED. THE GIVEN ROWS OF THIS SEAT. 5 by the template 'for every input the law returns true; each argument reads behind the call as it read before'; 0 by the template 'total and deterministic' (their statements: YtbbdbcgmeffchaaTotals.lean).
  GIVEN WITH THE SEED: the statements are not yours to turn. If you find one false, say at which input.
  Laid BY PROGRAM, IN A SANDBOX (cutbox-rows.mjs): the forced cells as the released guide's own fill.sh prints them over the translation ab4a96616caa8f66… (all of the seat's roots in one cut). By AI agents, Wed Nov 11 2026. No macro, syntax, notation, axiom, sorry.
-/
import Derived.Test.YtbbdbcgmeffchaaChecked
import GoSem.Claim
import GoSem.ClaimJoined
import GoSem.ClaimMapViews
import Derived.JoinedTies
import Derived.KernelRfl
namespace Go.Proofs.Ytbbdbcgmeffchaa
/- THE CELL 'sum', in the pinned program and in every row, IS THE sha256 OF THE DUMP (.gsa) THAT YtbbdbcgmeffchaaProg.lean LOADS. Nothing in Lean hashes anything: it is a label: what it is worth is what the hold of that sum in a sandbox is worth. -/
noncomputable def Try.pinned : Pinned := { name := "ytbbdbcgmeffchaa", sum := "ab4a96616caa8f667c7b49791cf7cd68dadc1d5ff7d991b2e1c258d4064d3b16", checked := Try.checked }
namespace Rows
def none {H : Type} : Left H := { results := [], args := [] }

/-- 'braidworklaw16.RecencyOrder': WHATEVER THE INPUT: true; the input reads as it did. -/
def recencyOrderSpec : ChangeSpec := { name := "recencyOrder", fn := fun _ => fun
  | [d1, d2] => { results := [.lit (.bool true)], args := [d1, d2] }
  | _ => none }
def recencyOrderRow : OpenClaim := { program := "ytbbdbcgmeffchaa", sum := "ab4a96616caa8f667c7b49791cf7cd68dadc1d5ff7d991b2e1c258d4064d3b16", func := "braidwork/braidworklaw16.RecencyOrder", spec := "recencyOrder", apart := false }
def RecencyOrderSaid : Prop := recencyOrderRow.holds Try.pinned (OpenSpec.ofChange recencyOrderSpec)

/-- ITS FALSE NEIGHBOUR: 'it returns false'. Refute it at one input. -/
def recencyOrderWrong : ChangeSpec := { name := "recencyOrder", fn := fun _ => fun
  | [d1, d2] => { results := [.lit (.bool false)], args := [d1, d2] }
  | _ => none }
def RecencyOrderWrongFalsely : Prop := recencyOrderRow.holds Try.pinned (OpenSpec.ofChange recencyOrderWrong)

/-- 'braidworklaw16.RecencyDrops': WHATEVER THE INPUT: true; the input reads as it did. -/
def recencyDropsSpec : ChangeSpec := { name := "recencyDrops", fn := fun _ => fun
  | [d1, d2] => { results := [.lit (.bool true)], args := [d1, d2] }
  | _ => none }
def recencyDropsRow : OpenClaim := { program := "ytbbdbcgmeffchaa", sum := "ab4a96616caa8f667c7b49791cf7cd68dadc1d5ff7d991b2e1c258d4064d3b16", func := "braidwork/braidworklaw16.RecencyDrops", spec := "recencyDrops", apart := false }
def RecencyDropsSaid : Prop := recencyDropsRow.holds Try.pinned (OpenSpec.ofChange recencyDropsSpec)

/-- ITS FALSE NEIGHBOUR: 'it returns false'. Refute it at one input. -/
def recencyDropsWrong : ChangeSpec := { name := "recencyDrops", fn := fun _ => fun
  | [d1, d2] => { results := [.lit (.bool false)], args := [d1, d2] }
  | _ => none }
def RecencyDropsWrongFalsely : Prop := recencyDropsRow.holds Try.pinned (OpenSpec.ofChange recencyDropsWrong)

/-- 'braidworklaw16.RecencyRounds': WHATEVER THE INPUT: true; the input reads as it did. -/
def recencyRoundsSpec : ChangeSpec := { name := "recencyRounds", fn := fun _ => fun
  | [d1, d2] => { results := [.lit (.bool true)], args := [d1, d2] }
  | _ => none }
def recencyRoundsRow : OpenClaim := { program := "ytbbdbcgmeffchaa", sum := "ab4a96616caa8f667c7b49791cf7cd68dadc1d5ff7d991b2e1c258d4064d3b16", func := "braidwork/braidworklaw16.RecencyRounds", spec := "recencyRounds", apart := false }
def RecencyRoundsSaid : Prop := recencyRoundsRow.holds Try.pinned (OpenSpec.ofChange recencyRoundsSpec)

/-- ITS FALSE NEIGHBOUR: 'it returns false'. Refute it at one input. -/
def recencyRoundsWrong : ChangeSpec := { name := "recencyRounds", fn := fun _ => fun
  | [d1, d2] => { results := [.lit (.bool false)], args := [d1, d2] }
  | _ => none }
def RecencyRoundsWrongFalsely : Prop := recencyRoundsRow.holds Try.pinned (OpenSpec.ofChange recencyRoundsWrong)

/-- 'braidworklaw16.RecencyOldest': WHATEVER THE INPUT: true; the input reads as it did. -/
def recencyOldestSpec : ChangeSpec := { name := "recencyOldest", fn := fun _ => fun
  | [d1, d2] => { results := [.lit (.bool true)], args := [d1, d2] }
  | _ => none }
def recencyOldestRow : OpenClaim := { program := "ytbbdbcgmeffchaa", sum := "ab4a96616caa8f667c7b49791cf7cd68dadc1d5ff7d991b2e1c258d4064d3b16", func := "braidwork/braidworklaw16.RecencyOldest", spec := "recencyOldest", apart := false }
def RecencyOldestSaid : Prop := recencyOldestRow.holds Try.pinned (OpenSpec.ofChange recencyOldestSpec)

/-- ITS FALSE NEIGHBOUR: 'it returns false'. Refute it at one input. -/
def recencyOldestWrong : ChangeSpec := { name := "recencyOldest", fn := fun _ => fun
  | [d1, d2] => { results := [.lit (.bool false)], args := [d1, d2] }
  | _ => none }
def RecencyOldestWrongFalsely : Prop := recencyOldestRow.holds Try.pinned (OpenSpec.ofChange recencyOldestWrong)

/-- 'braidworklaw16.RecencyPlays': WHATEVER THE INPUT: true; the input reads as it did. -/
def recencyPlaysSpec : ChangeSpec := { name := "recencyPlays", fn := fun _ => fun
  | [d] => { results := [.lit (.bool true)], args := [d] }
  | _ => none }
def recencyPlaysRow : OpenClaim := { program := "ytbbdbcgmeffchaa", sum := "ab4a96616caa8f667c7b49791cf7cd68dadc1d5ff7d991b2e1c258d4064d3b16", func := "braidwork/braidworklaw16.RecencyPlays", spec := "recencyPlays", apart := false }
def RecencyPlaysSaid : Prop := recencyPlaysRow.holds Try.pinned (OpenSpec.ofChange recencyPlaysSpec)

/-- ITS FALSE NEIGHBOUR: 'it returns false'. Refute it at one input. -/
def recencyPlaysWrong : ChangeSpec := { name := "recencyPlays", fn := fun _ => fun
  | [d] => { results := [.lit (.bool false)], args := [d] }
  | _ => none }
def RecencyPlaysWrongFalsely : Prop := recencyPlaysRow.holds Try.pinned (OpenSpec.ofChange recencyPlaysWrong)

/- THE SECOND FORM. 'bulk': how many values and letters a reading holds, each counted each time it is reached (what is shared counts as often as it is met; a slice's spare places count too). A statement '..UptoSaid' is the law's where the arguments, and the package variables that the reading takes, are together of bulk at most 1048576: NARROWER than '..Said'. Prove '..Said' where nothing that the law and all that it calls make is longer than what came in: it says more and counts as full. Else prove '..UptoSaid'. A law counts once. -/
mutual
def uptoBulk {H : Type} : DataW H → Nat
  | .lit (.string bytes) => bytes.length + 1
  | .lit _ => 1
  | .nil => 1
  | .ptr d => uptoBulk d + 1
  | .slice elems spare => uptoBulkAll elems + uptoBulkAll spare + 1
  | .agg parts => uptoBulkAll parts + 1
  | .iface _ d => uptoBulk d + 1
  | .map entries => uptoBulkEntries entries + 1
  | .held _ => 1
def uptoBulkAll {H : Type} : List (DataW H) → Nat
  | [] => 0
  | d :: r => uptoBulk d + uptoBulkAll r
def uptoBulkEntries {H : Type} : List (Lit × DataW H) → Nat
  | [] => 0
  | x :: r => uptoBulkEntry x + uptoBulkEntries r
def uptoBulkEntry {H : Type} : Lit × DataW H → Nat
  | (.string bytes, d) => bytes.length + uptoBulk d + 1
  | (_, d) => uptoBulk d + 1
 end
def uptoSmall : (H : Type) → List (DataW H) → Bool := fun _ ds => decide (uptoBulkAll ds ≤ 1048576)
def OpenSpec.upto (s : _root_.Go.ChangeSpec) : _root_.Go.OpenSpec := { _root_.Go.OpenSpec.ofChange s with cond := some uptoSmall }

/-- 'braidworklaw16.RecencyOrder', WHERE WHAT IT READS IS OF BULK AT MOST 1048576: true; the input reads as it did. -/
def recencyOrderUptoRow : OpenClaim := { program := "ytbbdbcgmeffchaa", sum := "ab4a96616caa8f667c7b49791cf7cd68dadc1d5ff7d991b2e1c258d4064d3b16", func := "braidwork/braidworklaw16.RecencyOrder", spec := "recencyOrder", apart := false, narrowed := true }
def RecencyOrderUptoSaid : Prop := recencyOrderUptoRow.holds Try.pinned (OpenSpec.upto recencyOrderSpec)

/-- 'braidworklaw16.RecencyDrops', WHERE WHAT IT READS IS OF BULK AT MOST 1048576: true; the input reads as it did. -/
def recencyDropsUptoRow : OpenClaim := { program := "ytbbdbcgmeffchaa", sum := "ab4a96616caa8f667c7b49791cf7cd68dadc1d5ff7d991b2e1c258d4064d3b16", func := "braidwork/braidworklaw16.RecencyDrops", spec := "recencyDrops", apart := false, narrowed := true }
def RecencyDropsUptoSaid : Prop := recencyDropsUptoRow.holds Try.pinned (OpenSpec.upto recencyDropsSpec)

/-- 'braidworklaw16.RecencyRounds', WHERE WHAT IT READS IS OF BULK AT MOST 1048576: true; the input reads as it did. -/
def recencyRoundsUptoRow : OpenClaim := { program := "ytbbdbcgmeffchaa", sum := "ab4a96616caa8f667c7b49791cf7cd68dadc1d5ff7d991b2e1c258d4064d3b16", func := "braidwork/braidworklaw16.RecencyRounds", spec := "recencyRounds", apart := false, narrowed := true }
def RecencyRoundsUptoSaid : Prop := recencyRoundsUptoRow.holds Try.pinned (OpenSpec.upto recencyRoundsSpec)

/-- 'braidworklaw16.RecencyOldest', WHERE WHAT IT READS IS OF BULK AT MOST 1048576: true; the input reads as it did. -/
def recencyOldestUptoRow : OpenClaim := { program := "ytbbdbcgmeffchaa", sum := "ab4a96616caa8f667c7b49791cf7cd68dadc1d5ff7d991b2e1c258d4064d3b16", func := "braidwork/braidworklaw16.RecencyOldest", spec := "recencyOldest", apart := false, narrowed := true }
def RecencyOldestUptoSaid : Prop := recencyOldestUptoRow.holds Try.pinned (OpenSpec.upto recencyOldestSpec)

/-- 'braidworklaw16.RecencyPlays', WHERE WHAT IT READS IS OF BULK AT MOST 1048576: true; the input reads as it did. -/
def recencyPlaysUptoRow : OpenClaim := { program := "ytbbdbcgmeffchaa", sum := "ab4a96616caa8f667c7b49791cf7cd68dadc1d5ff7d991b2e1c258d4064d3b16", func := "braidwork/braidworklaw16.RecencyPlays", spec := "recencyPlays", apart := false, narrowed := true }
def RecencyPlaysUptoSaid : Prop := recencyPlaysUptoRow.holds Try.pinned (OpenSpec.upto recencyPlaysSpec)

end Rows
end Go.Proofs.Ytbbdbcgmeffchaa
