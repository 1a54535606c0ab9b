/-
  No cell of these rows narrows 'for every input' (looked for: loops, veiled, ifaces, maps, wideKeys, modest, calm, conditions, laid).
  DERIVED. THE GIVEN ROWS OF THIS SEAT. 10 by the template 'for every input the law returns true; each argument reads behind the call as it read before'; 0 by the template 'total and deterministic' (their statements: YtmfoakghjacibaaTotals.lean).
  GIVEN WITH THE SEED: the statements are not yours to turn. If you find one false, say at which input.
  Laid BY PROGRAM, IN A SANDBOX (cutbox-rows.mjs): the forced cells as the released guide's own fill.sh prints them over the translation 57253d838c9fa7a7… (all of the seat's roots in one cut). By AI agents, Wed Nov 11 2026. No macro, syntax, notation, axiom, sorry.
-/
import Derived.Test.YtmfoakghjacibaaChecked
import GoSem.Claim
import GoSem.ClaimJoined
import GoSem.ClaimMapViews
import Derived.JoinedTies
import Derived.KernelRfl
namespace Go.Proofs.Ytmfoakghjacibaa
/- THE CELL 'sum', in the pinned program and in every row, IS THE sha256 OF THE DUMP (.gsa) THAT YtmfoakghjacibaaProg.lean LOADS. Nothing in Lean hashes anything: it is a label: what it is worth is what the hold of that sum in a sandbox is worth. -/
noncomputable def Try.pinned : Pinned := { name := "ytmfoakghjacibaa", sum := "57253d838c9fa7a734e8595958e0a87636d2ed3abaed7213263d8b5fd112abe5", checked := Try.checked }
namespace Rows
def none {H : Type} : Left H := { results := [], args := [] }

/-- 'canterlaw23.TsqTells': WHATEVER THE INPUT: true; the input reads as it did. -/
def tsqTellsSpec : ChangeSpec := { name := "tsqTells", fn := fun _ => fun
  | [d1, d2, d3, d4, d5] => { results := [.lit (.bool true)], args := [d1, d2, d3, d4, d5] }
  | _ => none }
def tsqTellsRow : OpenClaim := { program := "ytmfoakghjacibaa", sum := "57253d838c9fa7a734e8595958e0a87636d2ed3abaed7213263d8b5fd112abe5", func := "canter/canterlaw23.TsqTells", spec := "tsqTells", apart := false }
def TsqTellsSaid : Prop := tsqTellsRow.holds Try.pinned (OpenSpec.ofChange tsqTellsSpec)

/-- ITS FALSE NEIGHBOUR: 'it returns false'. Refute it at one input. -/
def tsqTellsWrong : ChangeSpec := { name := "tsqTells", fn := fun _ => fun
  | [d1, d2, d3, d4, d5] => { results := [.lit (.bool false)], args := [d1, d2, d3, d4, d5] }
  | _ => none }
def TsqTellsWrongFalsely : Prop := tsqTellsRow.holds Try.pinned (OpenSpec.ofChange tsqTellsWrong)

/-- 'canterlaw23.TsqBounds': WHATEVER THE INPUT: true; the input reads as it did. -/
def tsqBoundsSpec : ChangeSpec := { name := "tsqBounds", fn := fun _ => fun
  | [d1, d2, d3, d4, d5] => { results := [.lit (.bool true)], args := [d1, d2, d3, d4, d5] }
  | _ => none }
def tsqBoundsRow : OpenClaim := { program := "ytmfoakghjacibaa", sum := "57253d838c9fa7a734e8595958e0a87636d2ed3abaed7213263d8b5fd112abe5", func := "canter/canterlaw23.TsqBounds", spec := "tsqBounds", apart := false }
def TsqBoundsSaid : Prop := tsqBoundsRow.holds Try.pinned (OpenSpec.ofChange tsqBoundsSpec)

/-- ITS FALSE NEIGHBOUR: 'it returns false'. Refute it at one input. -/
def tsqBoundsWrong : ChangeSpec := { name := "tsqBounds", fn := fun _ => fun
  | [d1, d2, d3, d4, d5] => { results := [.lit (.bool false)], args := [d1, d2, d3, d4, d5] }
  | _ => none }
def TsqBoundsWrongFalsely : Prop := tsqBoundsRow.holds Try.pinned (OpenSpec.ofChange tsqBoundsWrong)

/-- 'canterlaw23.TsqHeld': WHATEVER THE INPUT: true; the input reads as it did. -/
def tsqHeldSpec : ChangeSpec := { name := "tsqHeld", fn := fun _ => fun
  | [d1, d2] => { results := [.lit (.bool true)], args := [d1, d2] }
  | _ => none }
def tsqHeldRow : OpenClaim := { program := "ytmfoakghjacibaa", sum := "57253d838c9fa7a734e8595958e0a87636d2ed3abaed7213263d8b5fd112abe5", func := "canter/canterlaw23.TsqHeld", spec := "tsqHeld", apart := false }
def TsqHeldSaid : Prop := tsqHeldRow.holds Try.pinned (OpenSpec.ofChange tsqHeldSpec)

/-- ITS FALSE NEIGHBOUR: 'it returns false'. Refute it at one input. -/
def tsqHeldWrong : ChangeSpec := { name := "tsqHeld", fn := fun _ => fun
  | [d1, d2] => { results := [.lit (.bool false)], args := [d1, d2] }
  | _ => none }
def TsqHeldWrongFalsely : Prop := tsqHeldRow.holds Try.pinned (OpenSpec.ofChange tsqHeldWrong)

/-- 'canterlaw22.TsoTells': WHATEVER THE INPUT: true; the input reads as it did. -/
def tsoTellsSpec : ChangeSpec := { name := "tsoTells", fn := fun _ => fun
  | [d1, d2] => { results := [.lit (.bool true)], args := [d1, d2] }
  | _ => none }
def tsoTellsRow : OpenClaim := { program := "ytmfoakghjacibaa", sum := "57253d838c9fa7a734e8595958e0a87636d2ed3abaed7213263d8b5fd112abe5", func := "canter/canterlaw22.TsoTells", spec := "tsoTells", apart := false }
def TsoTellsSaid : Prop := tsoTellsRow.holds Try.pinned (OpenSpec.ofChange tsoTellsSpec)

/-- ITS FALSE NEIGHBOUR: 'it returns false'. Refute it at one input. -/
def tsoTellsWrong : ChangeSpec := { name := "tsoTells", fn := fun _ => fun
  | [d1, d2] => { results := [.lit (.bool false)], args := [d1, d2] }
  | _ => none }
def TsoTellsWrongFalsely : Prop := tsoTellsRow.holds Try.pinned (OpenSpec.ofChange tsoTellsWrong)

/-- 'canterlaw22.TsoBounds': WHATEVER THE INPUT: true; the input reads as it did. -/
def tsoBoundsSpec : ChangeSpec := { name := "tsoBounds", fn := fun _ => fun
  | [d1, d2, d3] => { results := [.lit (.bool true)], args := [d1, d2, d3] }
  | _ => none }
def tsoBoundsRow : OpenClaim := { program := "ytmfoakghjacibaa", sum := "57253d838c9fa7a734e8595958e0a87636d2ed3abaed7213263d8b5fd112abe5", func := "canter/canterlaw22.TsoBounds", spec := "tsoBounds", apart := false }
def TsoBoundsSaid : Prop := tsoBoundsRow.holds Try.pinned (OpenSpec.ofChange tsoBoundsSpec)

/-- ITS FALSE NEIGHBOUR: 'it returns false'. Refute it at one input. -/
def tsoBoundsWrong : ChangeSpec := { name := "tsoBounds", fn := fun _ => fun
  | [d1, d2, d3] => { results := [.lit (.bool false)], args := [d1, d2, d3] }
  | _ => none }
def TsoBoundsWrongFalsely : Prop := tsoBoundsRow.holds Try.pinned (OpenSpec.ofChange tsoBoundsWrong)

/-- 'canterlaw22.TsoHeld': WHATEVER THE INPUT: true; the input reads as it did. -/
def tsoHeldSpec : ChangeSpec := { name := "tsoHeld", fn := fun _ => fun
  | [d1, d2] => { results := [.lit (.bool true)], args := [d1, d2] }
  | _ => none }
def tsoHeldRow : OpenClaim := { program := "ytmfoakghjacibaa", sum := "57253d838c9fa7a734e8595958e0a87636d2ed3abaed7213263d8b5fd112abe5", func := "canter/canterlaw22.TsoHeld", spec := "tsoHeld", apart := false }
def TsoHeldSaid : Prop := tsoHeldRow.holds Try.pinned (OpenSpec.ofChange tsoHeldSpec)

/-- ITS FALSE NEIGHBOUR: 'it returns false'. Refute it at one input. -/
def tsoHeldWrong : ChangeSpec := { name := "tsoHeld", fn := fun _ => fun
  | [d1, d2] => { results := [.lit (.bool false)], args := [d1, d2] }
  | _ => none }
def TsoHeldWrongFalsely : Prop := tsoHeldRow.holds Try.pinned (OpenSpec.ofChange tsoHeldWrong)

/-- 'canterlaw22.TsoSteps': WHATEVER THE INPUT: true; the input reads as it did. -/
def tsoStepsSpec : ChangeSpec := { name := "tsoSteps", fn := fun _ => fun
  | [d1, d2, d3] => { results := [.lit (.bool true)], args := [d1, d2, d3] }
  | _ => none }
def tsoStepsRow : OpenClaim := { program := "ytmfoakghjacibaa", sum := "57253d838c9fa7a734e8595958e0a87636d2ed3abaed7213263d8b5fd112abe5", func := "canter/canterlaw22.TsoSteps", spec := "tsoSteps", apart := false }
def TsoStepsSaid : Prop := tsoStepsRow.holds Try.pinned (OpenSpec.ofChange tsoStepsSpec)

/-- ITS FALSE NEIGHBOUR: 'it returns false'. Refute it at one input. -/
def tsoStepsWrong : ChangeSpec := { name := "tsoSteps", fn := fun _ => fun
  | [d1, d2, d3] => { results := [.lit (.bool false)], args := [d1, d2, d3] }
  | _ => none }
def TsoStepsWrongFalsely : Prop := tsoStepsRow.holds Try.pinned (OpenSpec.ofChange tsoStepsWrong)

/-- 'canterlaw11.RoundsTell': WHATEVER THE INPUT: true; the input reads as it did. -/
def roundsTellSpec : ChangeSpec := { name := "roundsTell", fn := fun _ => fun
  | [d] => { results := [.lit (.bool true)], args := [d] }
  | _ => none }
def roundsTellRow : OpenClaim := { program := "ytmfoakghjacibaa", sum := "57253d838c9fa7a734e8595958e0a87636d2ed3abaed7213263d8b5fd112abe5", func := "canter/canterlaw11.RoundsTell", spec := "roundsTell", apart := false }
def RoundsTellSaid : Prop := roundsTellRow.holds Try.pinned (OpenSpec.ofChange roundsTellSpec)

/-- ITS FALSE NEIGHBOUR: 'it returns false'. Refute it at one input. -/
def roundsTellWrong : ChangeSpec := { name := "roundsTell", fn := fun _ => fun
  | [d] => { results := [.lit (.bool false)], args := [d] }
  | _ => none }
def RoundsTellWrongFalsely : Prop := roundsTellRow.holds Try.pinned (OpenSpec.ofChange roundsTellWrong)

/-- 'canterlaw11.RoundsTrip': WHATEVER THE INPUT: true; the input reads as it did. -/
def roundsTripSpec : ChangeSpec := { name := "roundsTrip", fn := fun _ => fun
  | [d1, d2, d3] => { results := [.lit (.bool true)], args := [d1, d2, d3] }
  | _ => none }
def roundsTripRow : OpenClaim := { program := "ytmfoakghjacibaa", sum := "57253d838c9fa7a734e8595958e0a87636d2ed3abaed7213263d8b5fd112abe5", func := "canter/canterlaw11.RoundsTrip", spec := "roundsTrip", apart := false }
def RoundsTripSaid : Prop := roundsTripRow.holds Try.pinned (OpenSpec.ofChange roundsTripSpec)

/-- ITS FALSE NEIGHBOUR: 'it returns false'. Refute it at one input. -/
def roundsTripWrong : ChangeSpec := { name := "roundsTrip", fn := fun _ => fun
  | [d1, d2, d3] => { results := [.lit (.bool false)], args := [d1, d2, d3] }
  | _ => none }
def RoundsTripWrongFalsely : Prop := roundsTripRow.holds Try.pinned (OpenSpec.ofChange roundsTripWrong)

/-- 'canterlaw11.RoundsNone': WHATEVER THE INPUT: true; the input reads as it did. -/
def roundsNoneSpec : ChangeSpec := { name := "roundsNone", fn := fun _ => fun
  | [d] => { results := [.lit (.bool true)], args := [d] }
  | _ => none }
def roundsNoneRow : OpenClaim := { program := "ytmfoakghjacibaa", sum := "57253d838c9fa7a734e8595958e0a87636d2ed3abaed7213263d8b5fd112abe5", func := "canter/canterlaw11.RoundsNone", spec := "roundsNone", apart := false }
def RoundsNoneSaid : Prop := roundsNoneRow.holds Try.pinned (OpenSpec.ofChange roundsNoneSpec)

/-- ITS FALSE NEIGHBOUR: 'it returns false'. Refute it at one input. -/
def roundsNoneWrong : ChangeSpec := { name := "roundsNone", fn := fun _ => fun
  | [d] => { results := [.lit (.bool false)], args := [d] }
  | _ => none }
def RoundsNoneWrongFalsely : Prop := roundsNoneRow.holds Try.pinned (OpenSpec.ofChange roundsNoneWrong)

/- THE SECOND FORM. 'bulk': how many values and letters a reading holds, each counted each time it is reached (what is shared counts as often as it is met; a slice's spare places count too). A statement '..UptoSaid' is the law's where the arguments, and the package variables that the reading takes, are together of bulk at most 1048576: NARROWER than '..Said'. Prove '..Said' where nothing that the law and all that it calls make is longer than what came in: it says more and counts as full. Else prove '..UptoSaid'. A law counts once. -/
mutual
def uptoBulk {H : Type} : DataW H → Nat
  | .lit (.string bytes) => bytes.length + 1
  | .lit _ => 1
  | .nil => 1
  | .ptr d => uptoBulk d + 1
  | .slice elems spare => uptoBulkAll elems + uptoBulkAll spare + 1
  | .agg parts => uptoBulkAll parts + 1
  | .iface _ d => uptoBulk d + 1
  | .map entries => uptoBulkEntries entries + 1
  | .held _ => 1
def uptoBulkAll {H : Type} : List (DataW H) → Nat
  | [] => 0
  | d :: r => uptoBulk d + uptoBulkAll r
def uptoBulkEntries {H : Type} : List (Lit × DataW H) → Nat
  | [] => 0
  | x :: r => uptoBulkEntry x + uptoBulkEntries r
def uptoBulkEntry {H : Type} : Lit × DataW H → Nat
  | (.string bytes, d) => bytes.length + uptoBulk d + 1
  | (_, d) => uptoBulk d + 1
 end
def uptoSmall : (H : Type) → List (DataW H) → Bool := fun _ ds => decide (uptoBulkAll ds ≤ 1048576)
def OpenSpec.upto (s : _root_.Go.ChangeSpec) : _root_.Go.OpenSpec := { _root_.Go.OpenSpec.ofChange s with cond := some uptoSmall }

/-- 'canterlaw23.TsqTells', WHERE WHAT IT READS IS OF BULK AT MOST 1048576: true; the input reads as it did. -/
def tsqTellsUptoRow : OpenClaim := { program := "ytmfoakghjacibaa", sum := "57253d838c9fa7a734e8595958e0a87636d2ed3abaed7213263d8b5fd112abe5", func := "canter/canterlaw23.TsqTells", spec := "tsqTells", apart := false, narrowed := true }
def TsqTellsUptoSaid : Prop := tsqTellsUptoRow.holds Try.pinned (OpenSpec.upto tsqTellsSpec)

/-- 'canterlaw23.TsqBounds', WHERE WHAT IT READS IS OF BULK AT MOST 1048576: true; the input reads as it did. -/
def tsqBoundsUptoRow : OpenClaim := { program := "ytmfoakghjacibaa", sum := "57253d838c9fa7a734e8595958e0a87636d2ed3abaed7213263d8b5fd112abe5", func := "canter/canterlaw23.TsqBounds", spec := "tsqBounds", apart := false, narrowed := true }
def TsqBoundsUptoSaid : Prop := tsqBoundsUptoRow.holds Try.pinned (OpenSpec.upto tsqBoundsSpec)

/-- 'canterlaw23.TsqHeld', WHERE WHAT IT READS IS OF BULK AT MOST 1048576: true; the input reads as it did. -/
def tsqHeldUptoRow : OpenClaim := { program := "ytmfoakghjacibaa", sum := "57253d838c9fa7a734e8595958e0a87636d2ed3abaed7213263d8b5fd112abe5", func := "canter/canterlaw23.TsqHeld", spec := "tsqHeld", apart := false, narrowed := true }
def TsqHeldUptoSaid : Prop := tsqHeldUptoRow.holds Try.pinned (OpenSpec.upto tsqHeldSpec)

/-- 'canterlaw22.TsoTells', WHERE WHAT IT READS IS OF BULK AT MOST 1048576: true; the input reads as it did. -/
def tsoTellsUptoRow : OpenClaim := { program := "ytmfoakghjacibaa", sum := "57253d838c9fa7a734e8595958e0a87636d2ed3abaed7213263d8b5fd112abe5", func := "canter/canterlaw22.TsoTells", spec := "tsoTells", apart := false, narrowed := true }
def TsoTellsUptoSaid : Prop := tsoTellsUptoRow.holds Try.pinned (OpenSpec.upto tsoTellsSpec)

/-- 'canterlaw22.TsoBounds', WHERE WHAT IT READS IS OF BULK AT MOST 1048576: true; the input reads as it did. -/
def tsoBoundsUptoRow : OpenClaim := { program := "ytmfoakghjacibaa", sum := "57253d838c9fa7a734e8595958e0a87636d2ed3abaed7213263d8b5fd112abe5", func := "canter/canterlaw22.TsoBounds", spec := "tsoBounds", apart := false, narrowed := true }
def TsoBoundsUptoSaid : Prop := tsoBoundsUptoRow.holds Try.pinned (OpenSpec.upto tsoBoundsSpec)

/-- 'canterlaw22.TsoHeld', WHERE WHAT IT READS IS OF BULK AT MOST 1048576: true; the input reads as it did. -/
def tsoHeldUptoRow : OpenClaim := { program := "ytmfoakghjacibaa", sum := "57253d838c9fa7a734e8595958e0a87636d2ed3abaed7213263d8b5fd112abe5", func := "canter/canterlaw22.TsoHeld", spec := "tsoHeld", apart := false, narrowed := true }
def TsoHeldUptoSaid : Prop := tsoHeldUptoRow.holds Try.pinned (OpenSpec.upto tsoHeldSpec)

/-- 'canterlaw22.TsoSteps', WHERE WHAT IT READS IS OF BULK AT MOST 1048576: true; the input reads as it did. -/
def tsoStepsUptoRow : OpenClaim := { program := "ytmfoakghjacibaa", sum := "57253d838c9fa7a734e8595958e0a87636d2ed3abaed7213263d8b5fd112abe5", func := "canter/canterlaw22.TsoSteps", spec := "tsoSteps", apart := false, narrowed := true }
def TsoStepsUptoSaid : Prop := tsoStepsUptoRow.holds Try.pinned (OpenSpec.upto tsoStepsSpec)

/-- 'canterlaw11.RoundsTell', WHERE WHAT IT READS IS OF BULK AT MOST 1048576: true; the input reads as it did. -/
def roundsTellUptoRow : OpenClaim := { program := "ytmfoakghjacibaa", sum := "57253d838c9fa7a734e8595958e0a87636d2ed3abaed7213263d8b5fd112abe5", func := "canter/canterlaw11.RoundsTell", spec := "roundsTell", apart := false, narrowed := true }
def RoundsTellUptoSaid : Prop := roundsTellUptoRow.holds Try.pinned (OpenSpec.upto roundsTellSpec)

/-- 'canterlaw11.RoundsTrip', WHERE WHAT IT READS IS OF BULK AT MOST 1048576: true; the input reads as it did. -/
def roundsTripUptoRow : OpenClaim := { program := "ytmfoakghjacibaa", sum := "57253d838c9fa7a734e8595958e0a87636d2ed3abaed7213263d8b5fd112abe5", func := "canter/canterlaw11.RoundsTrip", spec := "roundsTrip", apart := false, narrowed := true }
def RoundsTripUptoSaid : Prop := roundsTripUptoRow.holds Try.pinned (OpenSpec.upto roundsTripSpec)

/-- 'canterlaw11.RoundsNone', WHERE WHAT IT READS IS OF BULK AT MOST 1048576: true; the input reads as it did. -/
def roundsNoneUptoRow : OpenClaim := { program := "ytmfoakghjacibaa", sum := "57253d838c9fa7a734e8595958e0a87636d2ed3abaed7213263d8b5fd112abe5", func := "canter/canterlaw11.RoundsNone", spec := "roundsNone", apart := false, narrowed := true }
def RoundsNoneUptoSaid : Prop := roundsNoneUptoRow.holds Try.pinned (OpenSpec.upto roundsNoneSpec)

end Rows
end Go.Proofs.Ytmfoakghjacibaa
