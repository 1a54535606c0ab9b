/-
  No cell of these rows narrows 'for every input' (looked for: loops, veiled, ifaces, maps, wideKeys, modest, calm, conditions, laid).
  DERIVED. THE GIVEN ROWS OF THIS SEAT. 8 by the template 'for every input the law returns true; each argument reads behind the call as it read before'; 0 by the template 'total and deterministic' (their statements: YtnkcdicmjdafiaaTotals.lean).
  GIVEN WITH THE SEED: the statements are not yours to turn. If you find one false, say at which input.
  Laid BY PROGRAM, IN A SANDBOX (cutbox-rows.mjs): the forced cells as the released guide's own fill.sh prints them over the translation 6b305b05ed9f0c27… (all of the seat's roots in one cut). By AI agents, Wed Nov 11 2026. No macro, syntax, notation, axiom, sorry.
-/
import Derived.Test.YtnkcdicmjdafiaaChecked
import GoSem.Claim
import GoSem.ClaimJoined
import GoSem.ClaimMapViews
import Derived.JoinedTies
import Derived.KernelRfl
namespace Go.Proofs.Ytnkcdicmjdafiaa
/- THE CELL 'sum', in the pinned program and in every row, IS THE sha256 OF THE DUMP (.gsa) THAT YtnkcdicmjdafiaaProg.lean LOADS. Nothing in Lean hashes anything: it is a label: what it is worth is what the hold of that sum in a sandbox is worth. -/
noncomputable def Try.pinned : Pinned := { name := "ytnkcdicmjdafiaa", sum := "6b305b05ed9f0c275f863781650e97a3b26a53216909b1ac7d67071f23288767", checked := Try.checked }
namespace Rows
def none {H : Type} : Left H := { results := [], args := [] }

/-- 'canterlaw21.BufferParts': WHATEVER THE INPUT: true; the input reads as it did. -/
def bufferPartsSpec : ChangeSpec := { name := "bufferParts", fn := fun _ => fun
  | [d1, d2] => { results := [.lit (.bool true)], args := [d1, d2] }
  | _ => none }
def bufferPartsRow : OpenClaim := { program := "ytnkcdicmjdafiaa", sum := "6b305b05ed9f0c275f863781650e97a3b26a53216909b1ac7d67071f23288767", func := "canter/canterlaw21.BufferParts", spec := "bufferParts", apart := false }
def BufferPartsSaid : Prop := bufferPartsRow.holds Try.pinned (OpenSpec.ofChange bufferPartsSpec)

/-- ITS FALSE NEIGHBOUR: 'it returns false'. Refute it at one input. -/
def bufferPartsWrong : ChangeSpec := { name := "bufferParts", fn := fun _ => fun
  | [d1, d2] => { results := [.lit (.bool false)], args := [d1, d2] }
  | _ => none }
def BufferPartsWrongFalsely : Prop := bufferPartsRow.holds Try.pinned (OpenSpec.ofChange bufferPartsWrong)

/-- 'canterlaw04.ArenaOnce': WHATEVER THE INPUT: true; the input reads as it did. -/
def arenaOnceSpec : ChangeSpec := { name := "arenaOnce", fn := fun _ => fun
  | [d1, d2] => { results := [.lit (.bool true)], args := [d1, d2] }
  | _ => none }
def arenaOnceRow : OpenClaim := { program := "ytnkcdicmjdafiaa", sum := "6b305b05ed9f0c275f863781650e97a3b26a53216909b1ac7d67071f23288767", func := "canter/canterlaw04.ArenaOnce", spec := "arenaOnce", unfollowed := true, recurses := true, apart := false }
def ArenaOnceSaid : Prop := arenaOnceRow.holds Try.pinned (OpenSpec.ofChange arenaOnceSpec)

/-- ITS FALSE NEIGHBOUR: 'it returns false'. Refute it at one input. -/
def arenaOnceWrong : ChangeSpec := { name := "arenaOnce", fn := fun _ => fun
  | [d1, d2] => { results := [.lit (.bool false)], args := [d1, d2] }
  | _ => none }
def ArenaOnceWrongFalsely : Prop := arenaOnceRow.holds Try.pinned (OpenSpec.ofChange arenaOnceWrong)

/-- 'canterlaw21.BufferRoom': WHATEVER THE INPUT: true; the input reads as it did. -/
def bufferRoomSpec : ChangeSpec := { name := "bufferRoom", fn := fun _ => fun
  | [d1, d2, d3] => { results := [.lit (.bool true)], args := [d1, d2, d3] }
  | _ => none }
def bufferRoomRow : OpenClaim := { program := "ytnkcdicmjdafiaa", sum := "6b305b05ed9f0c275f863781650e97a3b26a53216909b1ac7d67071f23288767", func := "canter/canterlaw21.BufferRoom", spec := "bufferRoom", apart := false }
def BufferRoomSaid : Prop := bufferRoomRow.holds Try.pinned (OpenSpec.ofChange bufferRoomSpec)

/-- ITS FALSE NEIGHBOUR: 'it returns false'. Refute it at one input. -/
def bufferRoomWrong : ChangeSpec := { name := "bufferRoom", fn := fun _ => fun
  | [d1, d2, d3] => { results := [.lit (.bool false)], args := [d1, d2, d3] }
  | _ => none }
def BufferRoomWrongFalsely : Prop := bufferRoomRow.holds Try.pinned (OpenSpec.ofChange bufferRoomWrong)

/-- 'canterlaw21.BufferPlays': WHATEVER THE INPUT: true; the input reads as it did. -/
def bufferPlaysSpec : ChangeSpec := { name := "bufferPlays", fn := fun _ => fun
  | [d1, d2] => { results := [.lit (.bool true)], args := [d1, d2] }
  | _ => none }
def bufferPlaysRow : OpenClaim := { program := "ytnkcdicmjdafiaa", sum := "6b305b05ed9f0c275f863781650e97a3b26a53216909b1ac7d67071f23288767", func := "canter/canterlaw21.BufferPlays", spec := "bufferPlays", apart := false }
def BufferPlaysSaid : Prop := bufferPlaysRow.holds Try.pinned (OpenSpec.ofChange bufferPlaysSpec)

/-- ITS FALSE NEIGHBOUR: 'it returns false'. Refute it at one input. -/
def bufferPlaysWrong : ChangeSpec := { name := "bufferPlays", fn := fun _ => fun
  | [d1, d2] => { results := [.lit (.bool false)], args := [d1, d2] }
  | _ => none }
def BufferPlaysWrongFalsely : Prop := bufferPlaysRow.holds Try.pinned (OpenSpec.ofChange bufferPlaysWrong)

/-- 'canterlaw21.BufferOnce': WHATEVER THE INPUT: true; the input reads as it did. -/
def bufferOnceSpec : ChangeSpec := { name := "bufferOnce", fn := fun _ => fun
  | [d1, d2, d3] => { results := [.lit (.bool true)], args := [d1, d2, d3] }
  | _ => none }
def bufferOnceRow : OpenClaim := { program := "ytnkcdicmjdafiaa", sum := "6b305b05ed9f0c275f863781650e97a3b26a53216909b1ac7d67071f23288767", func := "canter/canterlaw21.BufferOnce", spec := "bufferOnce", apart := false }
def BufferOnceSaid : Prop := bufferOnceRow.holds Try.pinned (OpenSpec.ofChange bufferOnceSpec)

/-- ITS FALSE NEIGHBOUR: 'it returns false'. Refute it at one input. -/
def bufferOnceWrong : ChangeSpec := { name := "bufferOnce", fn := fun _ => fun
  | [d1, d2, d3] => { results := [.lit (.bool false)], args := [d1, d2, d3] }
  | _ => none }
def BufferOnceWrongFalsely : Prop := bufferOnceRow.holds Try.pinned (OpenSpec.ofChange bufferOnceWrong)

/-- 'canterlaw04.ArenaPlays': WHATEVER THE INPUT: true; the input reads as it did. -/
def arenaPlaysSpec : ChangeSpec := { name := "arenaPlays", fn := fun _ => fun
  | [d1, d2] => { results := [.lit (.bool true)], args := [d1, d2] }
  | _ => none }
def arenaPlaysRow : OpenClaim := { program := "ytnkcdicmjdafiaa", sum := "6b305b05ed9f0c275f863781650e97a3b26a53216909b1ac7d67071f23288767", func := "canter/canterlaw04.ArenaPlays", spec := "arenaPlays", unfollowed := true, recurses := true, apart := false }
def ArenaPlaysSaid : Prop := arenaPlaysRow.holds Try.pinned (OpenSpec.ofChange arenaPlaysSpec)

/-- ITS FALSE NEIGHBOUR: 'it returns false'. Refute it at one input. -/
def arenaPlaysWrong : ChangeSpec := { name := "arenaPlays", fn := fun _ => fun
  | [d1, d2] => { results := [.lit (.bool false)], args := [d1, d2] }
  | _ => none }
def ArenaPlaysWrongFalsely : Prop := arenaPlaysRow.holds Try.pinned (OpenSpec.ofChange arenaPlaysWrong)

/-- 'canterlaw04.ArenaLast': WHATEVER THE INPUT: true; the input reads as it did. -/
def arenaLastSpec : ChangeSpec := { name := "arenaLast", fn := fun _ => fun
  | [d1, d2] => { results := [.lit (.bool true)], args := [d1, d2] }
  | _ => none }
def arenaLastRow : OpenClaim := { program := "ytnkcdicmjdafiaa", sum := "6b305b05ed9f0c275f863781650e97a3b26a53216909b1ac7d67071f23288767", func := "canter/canterlaw04.ArenaLast", spec := "arenaLast", unfollowed := true, recurses := true, apart := false }
def ArenaLastSaid : Prop := arenaLastRow.holds Try.pinned (OpenSpec.ofChange arenaLastSpec)

/-- ITS FALSE NEIGHBOUR: 'it returns false'. Refute it at one input. -/
def arenaLastWrong : ChangeSpec := { name := "arenaLast", fn := fun _ => fun
  | [d1, d2] => { results := [.lit (.bool false)], args := [d1, d2] }
  | _ => none }
def ArenaLastWrongFalsely : Prop := arenaLastRow.holds Try.pinned (OpenSpec.ofChange arenaLastWrong)

/-- 'canterlaw04.ArenaBounds': WHATEVER THE INPUT: true; the input reads as it did. -/
def arenaBoundsSpec : ChangeSpec := { name := "arenaBounds", fn := fun _ => fun
  | [d1, d2] => { results := [.lit (.bool true)], args := [d1, d2] }
  | _ => none }
def arenaBoundsRow : OpenClaim := { program := "ytnkcdicmjdafiaa", sum := "6b305b05ed9f0c275f863781650e97a3b26a53216909b1ac7d67071f23288767", func := "canter/canterlaw04.ArenaBounds", spec := "arenaBounds", unfollowed := true, recurses := true, apart := false }
def ArenaBoundsSaid : Prop := arenaBoundsRow.holds Try.pinned (OpenSpec.ofChange arenaBoundsSpec)

/-- ITS FALSE NEIGHBOUR: 'it returns false'. Refute it at one input. -/
def arenaBoundsWrong : ChangeSpec := { name := "arenaBounds", fn := fun _ => fun
  | [d1, d2] => { results := [.lit (.bool false)], args := [d1, d2] }
  | _ => none }
def ArenaBoundsWrongFalsely : Prop := arenaBoundsRow.holds Try.pinned (OpenSpec.ofChange arenaBoundsWrong)

/- THE SECOND FORM. 'bulk': how many values and letters a reading holds, each counted each time it is reached (what is shared counts as often as it is met; a slice's spare places count too). A statement '..UptoSaid' is the law's where the arguments, and the package variables that the reading takes, are together of bulk at most 1048576: NARROWER than '..Said'. Prove '..Said' where nothing that the law and all that it calls make is longer than what came in: it says more and counts as full. Else prove '..UptoSaid'. A law counts once. -/
mutual
def uptoBulk {H : Type} : DataW H → Nat
  | .lit (.string bytes) => bytes.length + 1
  | .lit _ => 1
  | .nil => 1
  | .ptr d => uptoBulk d + 1
  | .slice elems spare => uptoBulkAll elems + uptoBulkAll spare + 1
  | .agg parts => uptoBulkAll parts + 1
  | .iface _ d => uptoBulk d + 1
  | .map entries => uptoBulkEntries entries + 1
  | .held _ => 1
def uptoBulkAll {H : Type} : List (DataW H) → Nat
  | [] => 0
  | d :: r => uptoBulk d + uptoBulkAll r
def uptoBulkEntries {H : Type} : List (Lit × DataW H) → Nat
  | [] => 0
  | x :: r => uptoBulkEntry x + uptoBulkEntries r
def uptoBulkEntry {H : Type} : Lit × DataW H → Nat
  | (.string bytes, d) => bytes.length + uptoBulk d + 1
  | (_, d) => uptoBulk d + 1
 end
def uptoSmall : (H : Type) → List (DataW H) → Bool := fun _ ds => decide (uptoBulkAll ds ≤ 1048576)
def OpenSpec.upto (s : _root_.Go.ChangeSpec) : _root_.Go.OpenSpec := { _root_.Go.OpenSpec.ofChange s with cond := some uptoSmall }

/-- 'canterlaw21.BufferParts', WHERE WHAT IT READS IS OF BULK AT MOST 1048576: true; the input reads as it did. -/
def bufferPartsUptoRow : OpenClaim := { program := "ytnkcdicmjdafiaa", sum := "6b305b05ed9f0c275f863781650e97a3b26a53216909b1ac7d67071f23288767", func := "canter/canterlaw21.BufferParts", spec := "bufferParts", apart := false, narrowed := true }
def BufferPartsUptoSaid : Prop := bufferPartsUptoRow.holds Try.pinned (OpenSpec.upto bufferPartsSpec)

/-- 'canterlaw04.ArenaOnce', WHERE WHAT IT READS IS OF BULK AT MOST 1048576: true; the input reads as it did. -/
def arenaOnceUptoRow : OpenClaim := { program := "ytnkcdicmjdafiaa", sum := "6b305b05ed9f0c275f863781650e97a3b26a53216909b1ac7d67071f23288767", func := "canter/canterlaw04.ArenaOnce", spec := "arenaOnce", unfollowed := true, recurses := true, apart := false, narrowed := true }
def ArenaOnceUptoSaid : Prop := arenaOnceUptoRow.holds Try.pinned (OpenSpec.upto arenaOnceSpec)

/-- 'canterlaw21.BufferRoom', WHERE WHAT IT READS IS OF BULK AT MOST 1048576: true; the input reads as it did. -/
def bufferRoomUptoRow : OpenClaim := { program := "ytnkcdicmjdafiaa", sum := "6b305b05ed9f0c275f863781650e97a3b26a53216909b1ac7d67071f23288767", func := "canter/canterlaw21.BufferRoom", spec := "bufferRoom", apart := false, narrowed := true }
def BufferRoomUptoSaid : Prop := bufferRoomUptoRow.holds Try.pinned (OpenSpec.upto bufferRoomSpec)

/-- 'canterlaw21.BufferPlays', WHERE WHAT IT READS IS OF BULK AT MOST 1048576: true; the input reads as it did. -/
def bufferPlaysUptoRow : OpenClaim := { program := "ytnkcdicmjdafiaa", sum := "6b305b05ed9f0c275f863781650e97a3b26a53216909b1ac7d67071f23288767", func := "canter/canterlaw21.BufferPlays", spec := "bufferPlays", apart := false, narrowed := true }
def BufferPlaysUptoSaid : Prop := bufferPlaysUptoRow.holds Try.pinned (OpenSpec.upto bufferPlaysSpec)

/-- 'canterlaw21.BufferOnce', WHERE WHAT IT READS IS OF BULK AT MOST 1048576: true; the input reads as it did. -/
def bufferOnceUptoRow : OpenClaim := { program := "ytnkcdicmjdafiaa", sum := "6b305b05ed9f0c275f863781650e97a3b26a53216909b1ac7d67071f23288767", func := "canter/canterlaw21.BufferOnce", spec := "bufferOnce", apart := false, narrowed := true }
def BufferOnceUptoSaid : Prop := bufferOnceUptoRow.holds Try.pinned (OpenSpec.upto bufferOnceSpec)

/-- 'canterlaw04.ArenaPlays', WHERE WHAT IT READS IS OF BULK AT MOST 1048576: true; the input reads as it did. -/
def arenaPlaysUptoRow : OpenClaim := { program := "ytnkcdicmjdafiaa", sum := "6b305b05ed9f0c275f863781650e97a3b26a53216909b1ac7d67071f23288767", func := "canter/canterlaw04.ArenaPlays", spec := "arenaPlays", unfollowed := true, recurses := true, apart := false, narrowed := true }
def ArenaPlaysUptoSaid : Prop := arenaPlaysUptoRow.holds Try.pinned (OpenSpec.upto arenaPlaysSpec)

/-- 'canterlaw04.ArenaLast', WHERE WHAT IT READS IS OF BULK AT MOST 1048576: true; the input reads as it did. -/
def arenaLastUptoRow : OpenClaim := { program := "ytnkcdicmjdafiaa", sum := "6b305b05ed9f0c275f863781650e97a3b26a53216909b1ac7d67071f23288767", func := "canter/canterlaw04.ArenaLast", spec := "arenaLast", unfollowed := true, recurses := true, apart := false, narrowed := true }
def ArenaLastUptoSaid : Prop := arenaLastUptoRow.holds Try.pinned (OpenSpec.upto arenaLastSpec)

/-- 'canterlaw04.ArenaBounds', WHERE WHAT IT READS IS OF BULK AT MOST 1048576: true; the input reads as it did. -/
def arenaBoundsUptoRow : OpenClaim := { program := "ytnkcdicmjdafiaa", sum := "6b305b05ed9f0c275f863781650e97a3b26a53216909b1ac7d67071f23288767", func := "canter/canterlaw04.ArenaBounds", spec := "arenaBounds", unfollowed := true, recurses := true, apart := false, narrowed := true }
def ArenaBoundsUptoSaid : Prop := arenaBoundsUptoRow.holds Try.pinned (OpenSpec.upto arenaBoundsSpec)

end Rows
end Go.Proofs.Ytnkcdicmjdafiaa
