/-
  No cell of these rows narrows 'for every input' (looked for: loops, veiled, ifaces, maps, wideKeys, modest, calm, conditions, laid).
  DERIVED. THE GIVEN ROWS OF THIS SEAT. 7 by the template 'for every input the law returns true; each argument reads behind the call as it read before'; 0 by the template 'total and deterministic' (their statements: YtjamnhdgekccnaaTotals.lean).
  GIVEN WITH THE SEED: the statements are not yours to turn. If you find one false, say at which input.
  Laid BY PROGRAM, IN A SANDBOX (cutbox-rows.mjs): the forced cells as the released guide's own fill.sh prints them over the translation 1faafb840dea2fc6… (all of the seat's roots in one cut). By AI agents, Wed Nov 11 2026. No macro, syntax, notation, axiom, sorry.
-/
import Derived.Test.YtjamnhdgekccnaaChecked
import GoSem.Claim
import GoSem.ClaimJoined
import GoSem.ClaimMapViews
import Derived.JoinedTies
import Derived.KernelRfl
namespace Go.Proofs.Ytjamnhdgekccnaa
/- THE CELL 'sum', in the pinned program and in every row, IS THE sha256 OF THE DUMP (.gsa) THAT YtjamnhdgekccnaaProg.lean LOADS. Nothing in Lean hashes anything: it is a label: what it is worth is what the hold of that sum in a sandbox is worth. -/
noncomputable def Try.pinned : Pinned := { name := "ytjamnhdgekccnaa", sum := "1faafb840dea2fc6054cdd53f6f5a809591c24f2351044e587a1b10a97dc0f85", checked := Try.checked }
namespace Rows
def none {H : Type} : Left H := { results := [], args := [] }

/-- 'canterlaw08.WinmaxTells': WHATEVER THE INPUT: true; the input reads as it did. -/
def winmaxTellsSpec : ChangeSpec := { name := "winmaxTells", fn := fun _ => fun
  | [d1, d2] => { results := [.lit (.bool true)], args := [d1, d2] }
  | _ => none }
def winmaxTellsRow : OpenClaim := { program := "ytjamnhdgekccnaa", sum := "1faafb840dea2fc6054cdd53f6f5a809591c24f2351044e587a1b10a97dc0f85", func := "canter/canterlaw08.WinmaxTells", spec := "winmaxTells", apart := false }
def WinmaxTellsSaid : Prop := winmaxTellsRow.holds Try.pinned (OpenSpec.ofChange winmaxTellsSpec)

/-- ITS FALSE NEIGHBOUR: 'it returns false'. Refute it at one input. -/
def winmaxTellsWrong : ChangeSpec := { name := "winmaxTells", fn := fun _ => fun
  | [d1, d2] => { results := [.lit (.bool false)], args := [d1, d2] }
  | _ => none }
def WinmaxTellsWrongFalsely : Prop := winmaxTellsRow.holds Try.pinned (OpenSpec.ofChange winmaxTellsWrong)

/-- 'canterlaw08.WinmaxBounds': WHATEVER THE INPUT: true; the input reads as it did. -/
def winmaxBoundsSpec : ChangeSpec := { name := "winmaxBounds", fn := fun _ => fun
  | [d1, d2, d3] => { results := [.lit (.bool true)], args := [d1, d2, d3] }
  | _ => none }
def winmaxBoundsRow : OpenClaim := { program := "ytjamnhdgekccnaa", sum := "1faafb840dea2fc6054cdd53f6f5a809591c24f2351044e587a1b10a97dc0f85", func := "canter/canterlaw08.WinmaxBounds", spec := "winmaxBounds", apart := false }
def WinmaxBoundsSaid : Prop := winmaxBoundsRow.holds Try.pinned (OpenSpec.ofChange winmaxBoundsSpec)

/-- ITS FALSE NEIGHBOUR: 'it returns false'. Refute it at one input. -/
def winmaxBoundsWrong : ChangeSpec := { name := "winmaxBounds", fn := fun _ => fun
  | [d1, d2, d3] => { results := [.lit (.bool false)], args := [d1, d2, d3] }
  | _ => none }
def WinmaxBoundsWrongFalsely : Prop := winmaxBoundsRow.holds Try.pinned (OpenSpec.ofChange winmaxBoundsWrong)

/-- 'canterlaw08.WinmaxFalls': WHATEVER THE INPUT: true; the input reads as it did. -/
def winmaxFallsSpec : ChangeSpec := { name := "winmaxFalls", fn := fun _ => fun
  | [d1, d2, d3] => { results := [.lit (.bool true)], args := [d1, d2, d3] }
  | _ => none }
def winmaxFallsRow : OpenClaim := { program := "ytjamnhdgekccnaa", sum := "1faafb840dea2fc6054cdd53f6f5a809591c24f2351044e587a1b10a97dc0f85", func := "canter/canterlaw08.WinmaxFalls", spec := "winmaxFalls", apart := false }
def WinmaxFallsSaid : Prop := winmaxFallsRow.holds Try.pinned (OpenSpec.ofChange winmaxFallsSpec)

/-- ITS FALSE NEIGHBOUR: 'it returns false'. Refute it at one input. -/
def winmaxFallsWrong : ChangeSpec := { name := "winmaxFalls", fn := fun _ => fun
  | [d1, d2, d3] => { results := [.lit (.bool false)], args := [d1, d2, d3] }
  | _ => none }
def WinmaxFallsWrongFalsely : Prop := winmaxFallsRow.holds Try.pinned (OpenSpec.ofChange winmaxFallsWrong)

/-- 'canterlaw08.WinmaxResets': WHATEVER THE INPUT: true; the input reads as it did. -/
def winmaxResetsSpec : ChangeSpec := { name := "winmaxResets", fn := fun _ => fun
  | [d1, d2, d3, d4, d5, d6] => { results := [.lit (.bool true)], args := [d1, d2, d3, d4, d5, d6] }
  | _ => none }
def winmaxResetsRow : OpenClaim := { program := "ytjamnhdgekccnaa", sum := "1faafb840dea2fc6054cdd53f6f5a809591c24f2351044e587a1b10a97dc0f85", func := "canter/canterlaw08.WinmaxResets", spec := "winmaxResets", apart := false }
def WinmaxResetsSaid : Prop := winmaxResetsRow.holds Try.pinned (OpenSpec.ofChange winmaxResetsSpec)

/-- ITS FALSE NEIGHBOUR: 'it returns false'. Refute it at one input. -/
def winmaxResetsWrong : ChangeSpec := { name := "winmaxResets", fn := fun _ => fun
  | [d1, d2, d3, d4, d5, d6] => { results := [.lit (.bool false)], args := [d1, d2, d3, d4, d5, d6] }
  | _ => none }
def WinmaxResetsWrongFalsely : Prop := winmaxResetsRow.holds Try.pinned (OpenSpec.ofChange winmaxResetsWrong)

/-- 'canterlaw09.WinminTells': WHATEVER THE INPUT: true; the input reads as it did. -/
def winminTellsSpec : ChangeSpec := { name := "winminTells", fn := fun _ => fun
  | [d1, d2] => { results := [.lit (.bool true)], args := [d1, d2] }
  | _ => none }
def winminTellsRow : OpenClaim := { program := "ytjamnhdgekccnaa", sum := "1faafb840dea2fc6054cdd53f6f5a809591c24f2351044e587a1b10a97dc0f85", func := "canter/canterlaw09.WinminTells", spec := "winminTells", apart := false }
def WinminTellsSaid : Prop := winminTellsRow.holds Try.pinned (OpenSpec.ofChange winminTellsSpec)

/-- ITS FALSE NEIGHBOUR: 'it returns false'. Refute it at one input. -/
def winminTellsWrong : ChangeSpec := { name := "winminTells", fn := fun _ => fun
  | [d1, d2] => { results := [.lit (.bool false)], args := [d1, d2] }
  | _ => none }
def WinminTellsWrongFalsely : Prop := winminTellsRow.holds Try.pinned (OpenSpec.ofChange winminTellsWrong)

/-- 'canterlaw09.WinminBounds': WHATEVER THE INPUT: true; the input reads as it did. -/
def winminBoundsSpec : ChangeSpec := { name := "winminBounds", fn := fun _ => fun
  | [d1, d2, d3] => { results := [.lit (.bool true)], args := [d1, d2, d3] }
  | _ => none }
def winminBoundsRow : OpenClaim := { program := "ytjamnhdgekccnaa", sum := "1faafb840dea2fc6054cdd53f6f5a809591c24f2351044e587a1b10a97dc0f85", func := "canter/canterlaw09.WinminBounds", spec := "winminBounds", apart := false }
def WinminBoundsSaid : Prop := winminBoundsRow.holds Try.pinned (OpenSpec.ofChange winminBoundsSpec)

/-- ITS FALSE NEIGHBOUR: 'it returns false'. Refute it at one input. -/
def winminBoundsWrong : ChangeSpec := { name := "winminBounds", fn := fun _ => fun
  | [d1, d2, d3] => { results := [.lit (.bool false)], args := [d1, d2, d3] }
  | _ => none }
def WinminBoundsWrongFalsely : Prop := winminBoundsRow.holds Try.pinned (OpenSpec.ofChange winminBoundsWrong)

/-- 'canterlaw09.WinminTurned': WHATEVER THE INPUT: true; the input reads as it did. -/
def winminTurnedSpec : ChangeSpec := { name := "winminTurned", fn := fun _ => fun
  | [d1, d2] => { results := [.lit (.bool true)], args := [d1, d2] }
  | _ => none }
def winminTurnedRow : OpenClaim := { program := "ytjamnhdgekccnaa", sum := "1faafb840dea2fc6054cdd53f6f5a809591c24f2351044e587a1b10a97dc0f85", func := "canter/canterlaw09.WinminTurned", spec := "winminTurned", apart := false }
def WinminTurnedSaid : Prop := winminTurnedRow.holds Try.pinned (OpenSpec.ofChange winminTurnedSpec)

/-- ITS FALSE NEIGHBOUR: 'it returns false'. Refute it at one input. -/
def winminTurnedWrong : ChangeSpec := { name := "winminTurned", fn := fun _ => fun
  | [d1, d2] => { results := [.lit (.bool false)], args := [d1, d2] }
  | _ => none }
def WinminTurnedWrongFalsely : Prop := winminTurnedRow.holds Try.pinned (OpenSpec.ofChange winminTurnedWrong)

/- THE SECOND FORM. 'bulk': how many values and letters a reading holds, each counted each time it is reached (what is shared counts as often as it is met; a slice's spare places count too). A statement '..UptoSaid' is the law's where the arguments, and the package variables that the reading takes, are together of bulk at most 1048576: NARROWER than '..Said'. Prove '..Said' where nothing that the law and all that it calls make is longer than what came in: it says more and counts as full. Else prove '..UptoSaid'. A law counts once. -/
mutual
def uptoBulk {H : Type} : DataW H → Nat
  | .lit (.string bytes) => bytes.length + 1
  | .lit _ => 1
  | .nil => 1
  | .ptr d => uptoBulk d + 1
  | .slice elems spare => uptoBulkAll elems + uptoBulkAll spare + 1
  | .agg parts => uptoBulkAll parts + 1
  | .iface _ d => uptoBulk d + 1
  | .map entries => uptoBulkEntries entries + 1
  | .held _ => 1
def uptoBulkAll {H : Type} : List (DataW H) → Nat
  | [] => 0
  | d :: r => uptoBulk d + uptoBulkAll r
def uptoBulkEntries {H : Type} : List (Lit × DataW H) → Nat
  | [] => 0
  | x :: r => uptoBulkEntry x + uptoBulkEntries r
def uptoBulkEntry {H : Type} : Lit × DataW H → Nat
  | (.string bytes, d) => bytes.length + uptoBulk d + 1
  | (_, d) => uptoBulk d + 1
 end
def uptoSmall : (H : Type) → List (DataW H) → Bool := fun _ ds => decide (uptoBulkAll ds ≤ 1048576)
def OpenSpec.upto (s : _root_.Go.ChangeSpec) : _root_.Go.OpenSpec := { _root_.Go.OpenSpec.ofChange s with cond := some uptoSmall }

/-- 'canterlaw08.WinmaxTells', WHERE WHAT IT READS IS OF BULK AT MOST 1048576: true; the input reads as it did. -/
def winmaxTellsUptoRow : OpenClaim := { program := "ytjamnhdgekccnaa", sum := "1faafb840dea2fc6054cdd53f6f5a809591c24f2351044e587a1b10a97dc0f85", func := "canter/canterlaw08.WinmaxTells", spec := "winmaxTells", apart := false, narrowed := true }
def WinmaxTellsUptoSaid : Prop := winmaxTellsUptoRow.holds Try.pinned (OpenSpec.upto winmaxTellsSpec)

/-- 'canterlaw08.WinmaxBounds', WHERE WHAT IT READS IS OF BULK AT MOST 1048576: true; the input reads as it did. -/
def winmaxBoundsUptoRow : OpenClaim := { program := "ytjamnhdgekccnaa", sum := "1faafb840dea2fc6054cdd53f6f5a809591c24f2351044e587a1b10a97dc0f85", func := "canter/canterlaw08.WinmaxBounds", spec := "winmaxBounds", apart := false, narrowed := true }
def WinmaxBoundsUptoSaid : Prop := winmaxBoundsUptoRow.holds Try.pinned (OpenSpec.upto winmaxBoundsSpec)

/-- 'canterlaw08.WinmaxFalls', WHERE WHAT IT READS IS OF BULK AT MOST 1048576: true; the input reads as it did. -/
def winmaxFallsUptoRow : OpenClaim := { program := "ytjamnhdgekccnaa", sum := "1faafb840dea2fc6054cdd53f6f5a809591c24f2351044e587a1b10a97dc0f85", func := "canter/canterlaw08.WinmaxFalls", spec := "winmaxFalls", apart := false, narrowed := true }
def WinmaxFallsUptoSaid : Prop := winmaxFallsUptoRow.holds Try.pinned (OpenSpec.upto winmaxFallsSpec)

/-- 'canterlaw08.WinmaxResets', WHERE WHAT IT READS IS OF BULK AT MOST 1048576: true; the input reads as it did. -/
def winmaxResetsUptoRow : OpenClaim := { program := "ytjamnhdgekccnaa", sum := "1faafb840dea2fc6054cdd53f6f5a809591c24f2351044e587a1b10a97dc0f85", func := "canter/canterlaw08.WinmaxResets", spec := "winmaxResets", apart := false, narrowed := true }
def WinmaxResetsUptoSaid : Prop := winmaxResetsUptoRow.holds Try.pinned (OpenSpec.upto winmaxResetsSpec)

/-- 'canterlaw09.WinminTells', WHERE WHAT IT READS IS OF BULK AT MOST 1048576: true; the input reads as it did. -/
def winminTellsUptoRow : OpenClaim := { program := "ytjamnhdgekccnaa", sum := "1faafb840dea2fc6054cdd53f6f5a809591c24f2351044e587a1b10a97dc0f85", func := "canter/canterlaw09.WinminTells", spec := "winminTells", apart := false, narrowed := true }
def WinminTellsUptoSaid : Prop := winminTellsUptoRow.holds Try.pinned (OpenSpec.upto winminTellsSpec)

/-- 'canterlaw09.WinminBounds', WHERE WHAT IT READS IS OF BULK AT MOST 1048576: true; the input reads as it did. -/
def winminBoundsUptoRow : OpenClaim := { program := "ytjamnhdgekccnaa", sum := "1faafb840dea2fc6054cdd53f6f5a809591c24f2351044e587a1b10a97dc0f85", func := "canter/canterlaw09.WinminBounds", spec := "winminBounds", apart := false, narrowed := true }
def WinminBoundsUptoSaid : Prop := winminBoundsUptoRow.holds Try.pinned (OpenSpec.upto winminBoundsSpec)

/-- 'canterlaw09.WinminTurned', WHERE WHAT IT READS IS OF BULK AT MOST 1048576: true; the input reads as it did. -/
def winminTurnedUptoRow : OpenClaim := { program := "ytjamnhdgekccnaa", sum := "1faafb840dea2fc6054cdd53f6f5a809591c24f2351044e587a1b10a97dc0f85", func := "canter/canterlaw09.WinminTurned", spec := "winminTurned", apart := false, narrowed := true }
def WinminTurnedUptoSaid : Prop := winminTurnedUptoRow.holds Try.pinned (OpenSpec.upto winminTurnedSpec)

end Rows
end Go.Proofs.Ytjamnhdgekccnaa
