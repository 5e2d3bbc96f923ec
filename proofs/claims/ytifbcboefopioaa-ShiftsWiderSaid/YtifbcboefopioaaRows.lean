/-
  No cell of these rows narrows 'for every input' (looked for: loops, veiled, ifaces, maps, wideKeys, modest, calm, conditions, laid).
  DERIVED. THE GIVEN ROWS OF THIS SEAT. 16 by the template 'for every input the law returns true; each argument reads behind the call as it read before'; 0 by the template 'total and deterministic' (their statements: YtifbcboefopioaaTotals.lean).
  GIVEN WITH THE SEED: the statements are not yours to turn. If you find one false, say at which input.
  Laid BY PROGRAM, IN A SANDBOX (cutbox-rows.mjs): the forced cells as the released guide's own fill.sh prints them over the translation 72e4ecc1aa165a76… (all of the seat's roots in one cut). By AI agents, Wed Nov 11 2026. No macro, syntax, notation, axiom, sorry.
-/
import Derived.Test.YtifbcboefopioaaChecked
import GoSem.Claim
import GoSem.ClaimJoined
import GoSem.ClaimMapViews
import Derived.JoinedTies
import Derived.KernelRfl
namespace Go.Proofs.Ytifbcboefopioaa
/- THE CELL 'sum', in the pinned program and in every row, IS THE sha256 OF THE DUMP (.gsa) THAT YtifbcboefopioaaProg.lean LOADS. Nothing in Lean hashes anything: it is a label: what it is worth is what the hold of that sum in a sandbox is worth. -/
noncomputable def Try.pinned : Pinned := { name := "ytifbcboefopioaa", sum := "72e4ecc1aa165a76f3944ec820da6d8d01f7223a1099359c61ff089358a0cce7", checked := Try.checked }
namespace Rows
def none {H : Type} : Left H := { results := [], args := [] }

/-- 'seinelaw06.TrieNodes': WHATEVER THE INPUT: true; the input reads as it did. -/
def trieNodesSpec : ChangeSpec := { name := "trieNodes", fn := fun _ => fun
  | [d1, d2] => { results := [.lit (.bool true)], args := [d1, d2] }
  | _ => none }
def trieNodesRow : OpenClaim := { program := "ytifbcboefopioaa", sum := "72e4ecc1aa165a76f3944ec820da6d8d01f7223a1099359c61ff089358a0cce7", func := "seine/seinelaw06.TrieNodes", spec := "trieNodes", plainKeys := false, apart := false }
def TrieNodesSaid : Prop := trieNodesRow.holds Try.pinned (OpenSpec.ofChange trieNodesSpec)

/-- ITS FALSE NEIGHBOUR: 'it returns false'. Refute it at one input. -/
def trieNodesWrong : ChangeSpec := { name := "trieNodes", fn := fun _ => fun
  | [d1, d2] => { results := [.lit (.bool false)], args := [d1, d2] }
  | _ => none }
def TrieNodesWrongFalsely : Prop := trieNodesRow.holds Try.pinned (OpenSpec.ofChange trieNodesWrong)

/-- 'seinelaw06.TrieSteps': WHATEVER THE INPUT: true; the input reads as it did. -/
def trieStepsSpec : ChangeSpec := { name := "trieSteps", fn := fun _ => fun
  | [d1, d2, d3, d4] => { results := [.lit (.bool true)], args := [d1, d2, d3, d4] }
  | _ => none }
def trieStepsRow : OpenClaim := { program := "ytifbcboefopioaa", sum := "72e4ecc1aa165a76f3944ec820da6d8d01f7223a1099359c61ff089358a0cce7", func := "seine/seinelaw06.TrieSteps", spec := "trieSteps", plainKeys := false, apart := false }
def TrieStepsSaid : Prop := trieStepsRow.holds Try.pinned (OpenSpec.ofChange trieStepsSpec)

/-- ITS FALSE NEIGHBOUR: 'it returns false'. Refute it at one input. -/
def trieStepsWrong : ChangeSpec := { name := "trieSteps", fn := fun _ => fun
  | [d1, d2, d3, d4] => { results := [.lit (.bool false)], args := [d1, d2, d3, d4] }
  | _ => none }
def TrieStepsWrongFalsely : Prop := trieStepsRow.holds Try.pinned (OpenSpec.ofChange trieStepsWrong)

/-- 'seinelaw06.TrieBack': WHATEVER THE INPUT: true; the input reads as it did. -/
def trieBackSpec : ChangeSpec := { name := "trieBack", fn := fun _ => fun
  | [d] => { results := [.lit (.bool true)], args := [d] }
  | _ => none }
def trieBackRow : OpenClaim := { program := "ytifbcboefopioaa", sum := "72e4ecc1aa165a76f3944ec820da6d8d01f7223a1099359c61ff089358a0cce7", func := "seine/seinelaw06.TrieBack", spec := "trieBack", plainKeys := false, apart := false }
def TrieBackSaid : Prop := trieBackRow.holds Try.pinned (OpenSpec.ofChange trieBackSpec)

/-- ITS FALSE NEIGHBOUR: 'it returns false'. Refute it at one input. -/
def trieBackWrong : ChangeSpec := { name := "trieBack", fn := fun _ => fun
  | [d] => { results := [.lit (.bool false)], args := [d] }
  | _ => none }
def TrieBackWrongFalsely : Prop := trieBackRow.holds Try.pinned (OpenSpec.ofChange trieBackWrong)

/-- 'seinelaw06.TrieWords': WHATEVER THE INPUT: true; the input reads as it did. -/
def trieWordsSpec : ChangeSpec := { name := "trieWords", fn := fun _ => fun
  | [d] => { results := [.lit (.bool true)], args := [d] }
  | _ => none }
def trieWordsRow : OpenClaim := { program := "ytifbcboefopioaa", sum := "72e4ecc1aa165a76f3944ec820da6d8d01f7223a1099359c61ff089358a0cce7", func := "seine/seinelaw06.TrieWords", spec := "trieWords", plainKeys := false, apart := false }
def TrieWordsSaid : Prop := trieWordsRow.holds Try.pinned (OpenSpec.ofChange trieWordsSpec)

/-- ITS FALSE NEIGHBOUR: 'it returns false'. Refute it at one input. -/
def trieWordsWrong : ChangeSpec := { name := "trieWords", fn := fun _ => fun
  | [d] => { results := [.lit (.bool false)], args := [d] }
  | _ => none }
def TrieWordsWrongFalsely : Prop := trieWordsRow.holds Try.pinned (OpenSpec.ofChange trieWordsWrong)

/-- 'seinelaw06.TrieOrder': WHATEVER THE INPUT: true; the input reads as it did. -/
def trieOrderSpec : ChangeSpec := { name := "trieOrder", fn := fun _ => fun
  | [d1, d2, d3] => { results := [.lit (.bool true)], args := [d1, d2, d3] }
  | _ => none }
def trieOrderRow : OpenClaim := { program := "ytifbcboefopioaa", sum := "72e4ecc1aa165a76f3944ec820da6d8d01f7223a1099359c61ff089358a0cce7", func := "seine/seinelaw06.TrieOrder", spec := "trieOrder", plainKeys := false, apart := false }
def TrieOrderSaid : Prop := trieOrderRow.holds Try.pinned (OpenSpec.ofChange trieOrderSpec)

/-- ITS FALSE NEIGHBOUR: 'it returns false'. Refute it at one input. -/
def trieOrderWrong : ChangeSpec := { name := "trieOrder", fn := fun _ => fun
  | [d1, d2, d3] => { results := [.lit (.bool false)], args := [d1, d2, d3] }
  | _ => none }
def TrieOrderWrongFalsely : Prop := trieOrderRow.holds Try.pinned (OpenSpec.ofChange trieOrderWrong)

/-- 'seinelaw06.TrieMore': WHATEVER THE INPUT: true; the input reads as it did. -/
def trieMoreSpec : ChangeSpec := { name := "trieMore", fn := fun _ => fun
  | [d1, d2] => { results := [.lit (.bool true)], args := [d1, d2] }
  | _ => none }
def trieMoreRow : OpenClaim := { program := "ytifbcboefopioaa", sum := "72e4ecc1aa165a76f3944ec820da6d8d01f7223a1099359c61ff089358a0cce7", func := "seine/seinelaw06.TrieMore", spec := "trieMore", plainKeys := false, apart := false }
def TrieMoreSaid : Prop := trieMoreRow.holds Try.pinned (OpenSpec.ofChange trieMoreSpec)

/-- ITS FALSE NEIGHBOUR: 'it returns false'. Refute it at one input. -/
def trieMoreWrong : ChangeSpec := { name := "trieMore", fn := fun _ => fun
  | [d1, d2] => { results := [.lit (.bool false)], args := [d1, d2] }
  | _ => none }
def TrieMoreWrongFalsely : Prop := trieMoreRow.holds Try.pinned (OpenSpec.ofChange trieMoreWrong)

/-- 'seinelaw14.BackNodes': WHATEVER THE INPUT: true; the input reads as it did. -/
def backNodesSpec : ChangeSpec := { name := "backNodes", fn := fun _ => fun
  | [d1, d2] => { results := [.lit (.bool true)], args := [d1, d2] }
  | _ => none }
def backNodesRow : OpenClaim := { program := "ytifbcboefopioaa", sum := "72e4ecc1aa165a76f3944ec820da6d8d01f7223a1099359c61ff089358a0cce7", func := "seine/seinelaw14.BackNodes", spec := "backNodes", unfollowed := true, recurses := true, plainKeys := false, apart := false }
def BackNodesSaid : Prop := backNodesRow.holds Try.pinned (OpenSpec.ofChange backNodesSpec)

/-- ITS FALSE NEIGHBOUR: 'it returns false'. Refute it at one input. -/
def backNodesWrong : ChangeSpec := { name := "backNodes", fn := fun _ => fun
  | [d1, d2] => { results := [.lit (.bool false)], args := [d1, d2] }
  | _ => none }
def BackNodesWrongFalsely : Prop := backNodesRow.holds Try.pinned (OpenSpec.ofChange backNodesWrong)

/-- 'seinelaw14.BackNear': WHATEVER THE INPUT: true; the input reads as it did. -/
def backNearSpec : ChangeSpec := { name := "backNear", fn := fun _ => fun
  | [d1, d2] => { results := [.lit (.bool true)], args := [d1, d2] }
  | _ => none }
def backNearRow : OpenClaim := { program := "ytifbcboefopioaa", sum := "72e4ecc1aa165a76f3944ec820da6d8d01f7223a1099359c61ff089358a0cce7", func := "seine/seinelaw14.BackNear", spec := "backNear", unfollowed := true, recurses := true, plainKeys := false, apart := false }
def BackNearSaid : Prop := backNearRow.holds Try.pinned (OpenSpec.ofChange backNearSpec)

/-- ITS FALSE NEIGHBOUR: 'it returns false'. Refute it at one input. -/
def backNearWrong : ChangeSpec := { name := "backNear", fn := fun _ => fun
  | [d1, d2] => { results := [.lit (.bool false)], args := [d1, d2] }
  | _ => none }
def BackNearWrongFalsely : Prop := backNearRow.holds Try.pinned (OpenSpec.ofChange backNearWrong)

/-- 'seinelaw14.BackTurns': WHATEVER THE INPUT: true; the input reads as it did. -/
def backTurnsSpec : ChangeSpec := { name := "backTurns", fn := fun _ => fun
  | [d1, d2] => { results := [.lit (.bool true)], args := [d1, d2] }
  | _ => none }
def backTurnsRow : OpenClaim := { program := "ytifbcboefopioaa", sum := "72e4ecc1aa165a76f3944ec820da6d8d01f7223a1099359c61ff089358a0cce7", func := "seine/seinelaw14.BackTurns", spec := "backTurns", unfollowed := true, recurses := true, plainKeys := false, apart := false }
def BackTurnsSaid : Prop := backTurnsRow.holds Try.pinned (OpenSpec.ofChange backTurnsSpec)

/-- ITS FALSE NEIGHBOUR: 'it returns false'. Refute it at one input. -/
def backTurnsWrong : ChangeSpec := { name := "backTurns", fn := fun _ => fun
  | [d1, d2] => { results := [.lit (.bool false)], args := [d1, d2] }
  | _ => none }
def BackTurnsWrongFalsely : Prop := backTurnsRow.holds Try.pinned (OpenSpec.ofChange backTurnsWrong)

/-- 'seinelaw14.BackLeast': WHATEVER THE INPUT: true; the input reads as it did. -/
def backLeastSpec : ChangeSpec := { name := "backLeast", fn := fun _ => fun
  | [d1, d2] => { results := [.lit (.bool true)], args := [d1, d2] }
  | _ => none }
def backLeastRow : OpenClaim := { program := "ytifbcboefopioaa", sum := "72e4ecc1aa165a76f3944ec820da6d8d01f7223a1099359c61ff089358a0cce7", func := "seine/seinelaw14.BackLeast", spec := "backLeast", unfollowed := true, recurses := true, plainKeys := false, apart := false }
def BackLeastSaid : Prop := backLeastRow.holds Try.pinned (OpenSpec.ofChange backLeastSpec)

/-- ITS FALSE NEIGHBOUR: 'it returns false'. Refute it at one input. -/
def backLeastWrong : ChangeSpec := { name := "backLeast", fn := fun _ => fun
  | [d1, d2] => { results := [.lit (.bool false)], args := [d1, d2] }
  | _ => none }
def BackLeastWrongFalsely : Prop := backLeastRow.holds Try.pinned (OpenSpec.ofChange backLeastWrong)

/-- 'seinelaw14.BackEnds': WHATEVER THE INPUT: true; the input reads as it did. -/
def backEndsSpec : ChangeSpec := { name := "backEnds", fn := fun _ => fun
  | [d1, d2, d3] => { results := [.lit (.bool true)], args := [d1, d2, d3] }
  | _ => none }
def backEndsRow : OpenClaim := { program := "ytifbcboefopioaa", sum := "72e4ecc1aa165a76f3944ec820da6d8d01f7223a1099359c61ff089358a0cce7", func := "seine/seinelaw14.BackEnds", spec := "backEnds", unfollowed := true, recurses := true, plainKeys := false, apart := false }
def BackEndsSaid : Prop := backEndsRow.holds Try.pinned (OpenSpec.ofChange backEndsSpec)

/-- ITS FALSE NEIGHBOUR: 'it returns false'. Refute it at one input. -/
def backEndsWrong : ChangeSpec := { name := "backEnds", fn := fun _ => fun
  | [d1, d2, d3] => { results := [.lit (.bool false)], args := [d1, d2, d3] }
  | _ => none }
def BackEndsWrongFalsely : Prop := backEndsRow.holds Try.pinned (OpenSpec.ofChange backEndsWrong)

/-- 'seinelaw15.ShiftsTell': WHATEVER THE INPUT: true; the input reads as it did. -/
def shiftsTellSpec : ChangeSpec := { name := "shiftsTell", fn := fun _ => fun
  | [d1, d2] => { results := [.lit (.bool true)], args := [d1, d2] }
  | _ => none }
def shiftsTellRow : OpenClaim := { program := "ytifbcboefopioaa", sum := "72e4ecc1aa165a76f3944ec820da6d8d01f7223a1099359c61ff089358a0cce7", func := "seine/seinelaw15.ShiftsTell", spec := "shiftsTell", unfollowed := true, recurses := true, plainKeys := false, apart := false }
def ShiftsTellSaid : Prop := shiftsTellRow.holds Try.pinned (OpenSpec.ofChange shiftsTellSpec)

/-- ITS FALSE NEIGHBOUR: 'it returns false'. Refute it at one input. -/
def shiftsTellWrong : ChangeSpec := { name := "shiftsTell", fn := fun _ => fun
  | [d1, d2] => { results := [.lit (.bool false)], args := [d1, d2] }
  | _ => none }
def ShiftsTellWrongFalsely : Prop := shiftsTellRow.holds Try.pinned (OpenSpec.ofChange shiftsTellWrong)

/-- 'seinelaw15.ShiftsFar': WHATEVER THE INPUT: true; the input reads as it did. -/
def shiftsFarSpec : ChangeSpec := { name := "shiftsFar", fn := fun _ => fun
  | [d1, d2, d3] => { results := [.lit (.bool true)], args := [d1, d2, d3] }
  | _ => none }
def shiftsFarRow : OpenClaim := { program := "ytifbcboefopioaa", sum := "72e4ecc1aa165a76f3944ec820da6d8d01f7223a1099359c61ff089358a0cce7", func := "seine/seinelaw15.ShiftsFar", spec := "shiftsFar", unfollowed := true, recurses := true, plainKeys := false, apart := false }
def ShiftsFarSaid : Prop := shiftsFarRow.holds Try.pinned (OpenSpec.ofChange shiftsFarSpec)

/-- ITS FALSE NEIGHBOUR: 'it returns false'. Refute it at one input. -/
def shiftsFarWrong : ChangeSpec := { name := "shiftsFar", fn := fun _ => fun
  | [d1, d2, d3] => { results := [.lit (.bool false)], args := [d1, d2, d3] }
  | _ => none }
def ShiftsFarWrongFalsely : Prop := shiftsFarRow.holds Try.pinned (OpenSpec.ofChange shiftsFarWrong)

/-- 'seinelaw15.ShiftsBounds': WHATEVER THE INPUT: true; the input reads as it did. -/
def shiftsBoundsSpec : ChangeSpec := { name := "shiftsBounds", fn := fun _ => fun
  | [d1, d2] => { results := [.lit (.bool true)], args := [d1, d2] }
  | _ => none }
def shiftsBoundsRow : OpenClaim := { program := "ytifbcboefopioaa", sum := "72e4ecc1aa165a76f3944ec820da6d8d01f7223a1099359c61ff089358a0cce7", func := "seine/seinelaw15.ShiftsBounds", spec := "shiftsBounds", unfollowed := true, recurses := true, plainKeys := false, apart := false }
def ShiftsBoundsSaid : Prop := shiftsBoundsRow.holds Try.pinned (OpenSpec.ofChange shiftsBoundsSpec)

/-- ITS FALSE NEIGHBOUR: 'it returns false'. Refute it at one input. -/
def shiftsBoundsWrong : ChangeSpec := { name := "shiftsBounds", fn := fun _ => fun
  | [d1, d2] => { results := [.lit (.bool false)], args := [d1, d2] }
  | _ => none }
def ShiftsBoundsWrongFalsely : Prop := shiftsBoundsRow.holds Try.pinned (OpenSpec.ofChange shiftsBoundsWrong)

/-- 'seinelaw15.ShiftsSafe': WHATEVER THE INPUT: true; the input reads as it did. -/
def shiftsSafeSpec : ChangeSpec := { name := "shiftsSafe", fn := fun _ => fun
  | [d1, d2, d3] => { results := [.lit (.bool true)], args := [d1, d2, d3] }
  | _ => none }
def shiftsSafeRow : OpenClaim := { program := "ytifbcboefopioaa", sum := "72e4ecc1aa165a76f3944ec820da6d8d01f7223a1099359c61ff089358a0cce7", func := "seine/seinelaw15.ShiftsSafe", spec := "shiftsSafe", unfollowed := true, recurses := true, plainKeys := false, apart := false }
def ShiftsSafeSaid : Prop := shiftsSafeRow.holds Try.pinned (OpenSpec.ofChange shiftsSafeSpec)

/-- ITS FALSE NEIGHBOUR: 'it returns false'. Refute it at one input. -/
def shiftsSafeWrong : ChangeSpec := { name := "shiftsSafe", fn := fun _ => fun
  | [d1, d2, d3] => { results := [.lit (.bool false)], args := [d1, d2, d3] }
  | _ => none }
def ShiftsSafeWrongFalsely : Prop := shiftsSafeRow.holds Try.pinned (OpenSpec.ofChange shiftsSafeWrong)

/-- 'seinelaw15.ShiftsWider': WHATEVER THE INPUT: true; the input reads as it did. -/
def shiftsWiderSpec : ChangeSpec := { name := "shiftsWider", fn := fun _ => fun
  | [d1, d2] => { results := [.lit (.bool true)], args := [d1, d2] }
  | _ => none }
def shiftsWiderRow : OpenClaim := { program := "ytifbcboefopioaa", sum := "72e4ecc1aa165a76f3944ec820da6d8d01f7223a1099359c61ff089358a0cce7", func := "seine/seinelaw15.ShiftsWider", spec := "shiftsWider", unfollowed := true, recurses := true, plainKeys := false, apart := false }
def ShiftsWiderSaid : Prop := shiftsWiderRow.holds Try.pinned (OpenSpec.ofChange shiftsWiderSpec)

/-- ITS FALSE NEIGHBOUR: 'it returns false'. Refute it at one input. -/
def shiftsWiderWrong : ChangeSpec := { name := "shiftsWider", fn := fun _ => fun
  | [d1, d2] => { results := [.lit (.bool false)], args := [d1, d2] }
  | _ => none }
def ShiftsWiderWrongFalsely : Prop := shiftsWiderRow.holds Try.pinned (OpenSpec.ofChange shiftsWiderWrong)

/- THE SECOND FORM. 'bulk': how many values and letters a reading holds, each counted each time it is reached (what is shared counts as often as it is met; a slice's spare places count too). A statement '..UptoSaid' is the law's where the arguments, and the package variables that the reading takes, are together of bulk at most 1048576: NARROWER than '..Said'. Prove '..Said' where nothing that the law and all that it calls make is longer than what came in: it says more and counts as full. Else prove '..UptoSaid'. A law counts once. -/
mutual
def uptoBulk {H : Type} : DataW H → Nat
  | .lit (.string bytes) => bytes.length + 1
  | .lit _ => 1
  | .nil => 1
  | .ptr d => uptoBulk d + 1
  | .slice elems spare => uptoBulkAll elems + uptoBulkAll spare + 1
  | .agg parts => uptoBulkAll parts + 1
  | .iface _ d => uptoBulk d + 1
  | .map entries => uptoBulkEntries entries + 1
  | .held _ => 1
def uptoBulkAll {H : Type} : List (DataW H) → Nat
  | [] => 0
  | d :: r => uptoBulk d + uptoBulkAll r
def uptoBulkEntries {H : Type} : List (Lit × DataW H) → Nat
  | [] => 0
  | x :: r => uptoBulkEntry x + uptoBulkEntries r
def uptoBulkEntry {H : Type} : Lit × DataW H → Nat
  | (.string bytes, d) => bytes.length + uptoBulk d + 1
  | (_, d) => uptoBulk d + 1
 end
def uptoSmall : (H : Type) → List (DataW H) → Bool := fun _ ds => decide (uptoBulkAll ds ≤ 1048576)
def OpenSpec.upto (s : _root_.Go.ChangeSpec) : _root_.Go.OpenSpec := { _root_.Go.OpenSpec.ofChange s with cond := some uptoSmall }

/-- 'seinelaw06.TrieNodes', WHERE WHAT IT READS IS OF BULK AT MOST 1048576: true; the input reads as it did. -/
def trieNodesUptoRow : OpenClaim := { program := "ytifbcboefopioaa", sum := "72e4ecc1aa165a76f3944ec820da6d8d01f7223a1099359c61ff089358a0cce7", func := "seine/seinelaw06.TrieNodes", spec := "trieNodes", plainKeys := false, apart := false, narrowed := true }
def TrieNodesUptoSaid : Prop := trieNodesUptoRow.holds Try.pinned (OpenSpec.upto trieNodesSpec)

/-- 'seinelaw06.TrieSteps', WHERE WHAT IT READS IS OF BULK AT MOST 1048576: true; the input reads as it did. -/
def trieStepsUptoRow : OpenClaim := { program := "ytifbcboefopioaa", sum := "72e4ecc1aa165a76f3944ec820da6d8d01f7223a1099359c61ff089358a0cce7", func := "seine/seinelaw06.TrieSteps", spec := "trieSteps", plainKeys := false, apart := false, narrowed := true }
def TrieStepsUptoSaid : Prop := trieStepsUptoRow.holds Try.pinned (OpenSpec.upto trieStepsSpec)

/-- 'seinelaw06.TrieBack', WHERE WHAT IT READS IS OF BULK AT MOST 1048576: true; the input reads as it did. -/
def trieBackUptoRow : OpenClaim := { program := "ytifbcboefopioaa", sum := "72e4ecc1aa165a76f3944ec820da6d8d01f7223a1099359c61ff089358a0cce7", func := "seine/seinelaw06.TrieBack", spec := "trieBack", plainKeys := false, apart := false, narrowed := true }
def TrieBackUptoSaid : Prop := trieBackUptoRow.holds Try.pinned (OpenSpec.upto trieBackSpec)

/-- 'seinelaw06.TrieWords', WHERE WHAT IT READS IS OF BULK AT MOST 1048576: true; the input reads as it did. -/
def trieWordsUptoRow : OpenClaim := { program := "ytifbcboefopioaa", sum := "72e4ecc1aa165a76f3944ec820da6d8d01f7223a1099359c61ff089358a0cce7", func := "seine/seinelaw06.TrieWords", spec := "trieWords", plainKeys := false, apart := false, narrowed := true }
def TrieWordsUptoSaid : Prop := trieWordsUptoRow.holds Try.pinned (OpenSpec.upto trieWordsSpec)

/-- 'seinelaw06.TrieOrder', WHERE WHAT IT READS IS OF BULK AT MOST 1048576: true; the input reads as it did. -/
def trieOrderUptoRow : OpenClaim := { program := "ytifbcboefopioaa", sum := "72e4ecc1aa165a76f3944ec820da6d8d01f7223a1099359c61ff089358a0cce7", func := "seine/seinelaw06.TrieOrder", spec := "trieOrder", plainKeys := false, apart := false, narrowed := true }
def TrieOrderUptoSaid : Prop := trieOrderUptoRow.holds Try.pinned (OpenSpec.upto trieOrderSpec)

/-- 'seinelaw06.TrieMore', WHERE WHAT IT READS IS OF BULK AT MOST 1048576: true; the input reads as it did. -/
def trieMoreUptoRow : OpenClaim := { program := "ytifbcboefopioaa", sum := "72e4ecc1aa165a76f3944ec820da6d8d01f7223a1099359c61ff089358a0cce7", func := "seine/seinelaw06.TrieMore", spec := "trieMore", plainKeys := false, apart := false, narrowed := true }
def TrieMoreUptoSaid : Prop := trieMoreUptoRow.holds Try.pinned (OpenSpec.upto trieMoreSpec)

/-- 'seinelaw14.BackNodes', WHERE WHAT IT READS IS OF BULK AT MOST 1048576: true; the input reads as it did. -/
def backNodesUptoRow : OpenClaim := { program := "ytifbcboefopioaa", sum := "72e4ecc1aa165a76f3944ec820da6d8d01f7223a1099359c61ff089358a0cce7", func := "seine/seinelaw14.BackNodes", spec := "backNodes", unfollowed := true, recurses := true, plainKeys := false, apart := false, narrowed := true }
def BackNodesUptoSaid : Prop := backNodesUptoRow.holds Try.pinned (OpenSpec.upto backNodesSpec)

/-- 'seinelaw14.BackNear', WHERE WHAT IT READS IS OF BULK AT MOST 1048576: true; the input reads as it did. -/
def backNearUptoRow : OpenClaim := { program := "ytifbcboefopioaa", sum := "72e4ecc1aa165a76f3944ec820da6d8d01f7223a1099359c61ff089358a0cce7", func := "seine/seinelaw14.BackNear", spec := "backNear", unfollowed := true, recurses := true, plainKeys := false, apart := false, narrowed := true }
def BackNearUptoSaid : Prop := backNearUptoRow.holds Try.pinned (OpenSpec.upto backNearSpec)

/-- 'seinelaw14.BackTurns', WHERE WHAT IT READS IS OF BULK AT MOST 1048576: true; the input reads as it did. -/
def backTurnsUptoRow : OpenClaim := { program := "ytifbcboefopioaa", sum := "72e4ecc1aa165a76f3944ec820da6d8d01f7223a1099359c61ff089358a0cce7", func := "seine/seinelaw14.BackTurns", spec := "backTurns", unfollowed := true, recurses := true, plainKeys := false, apart := false, narrowed := true }
def BackTurnsUptoSaid : Prop := backTurnsUptoRow.holds Try.pinned (OpenSpec.upto backTurnsSpec)

/-- 'seinelaw14.BackLeast', WHERE WHAT IT READS IS OF BULK AT MOST 1048576: true; the input reads as it did. -/
def backLeastUptoRow : OpenClaim := { program := "ytifbcboefopioaa", sum := "72e4ecc1aa165a76f3944ec820da6d8d01f7223a1099359c61ff089358a0cce7", func := "seine/seinelaw14.BackLeast", spec := "backLeast", unfollowed := true, recurses := true, plainKeys := false, apart := false, narrowed := true }
def BackLeastUptoSaid : Prop := backLeastUptoRow.holds Try.pinned (OpenSpec.upto backLeastSpec)

/-- 'seinelaw14.BackEnds', WHERE WHAT IT READS IS OF BULK AT MOST 1048576: true; the input reads as it did. -/
def backEndsUptoRow : OpenClaim := { program := "ytifbcboefopioaa", sum := "72e4ecc1aa165a76f3944ec820da6d8d01f7223a1099359c61ff089358a0cce7", func := "seine/seinelaw14.BackEnds", spec := "backEnds", unfollowed := true, recurses := true, plainKeys := false, apart := false, narrowed := true }
def BackEndsUptoSaid : Prop := backEndsUptoRow.holds Try.pinned (OpenSpec.upto backEndsSpec)

/-- 'seinelaw15.ShiftsTell', WHERE WHAT IT READS IS OF BULK AT MOST 1048576: true; the input reads as it did. -/
def shiftsTellUptoRow : OpenClaim := { program := "ytifbcboefopioaa", sum := "72e4ecc1aa165a76f3944ec820da6d8d01f7223a1099359c61ff089358a0cce7", func := "seine/seinelaw15.ShiftsTell", spec := "shiftsTell", unfollowed := true, recurses := true, plainKeys := false, apart := false, narrowed := true }
def ShiftsTellUptoSaid : Prop := shiftsTellUptoRow.holds Try.pinned (OpenSpec.upto shiftsTellSpec)

/-- 'seinelaw15.ShiftsFar', WHERE WHAT IT READS IS OF BULK AT MOST 1048576: true; the input reads as it did. -/
def shiftsFarUptoRow : OpenClaim := { program := "ytifbcboefopioaa", sum := "72e4ecc1aa165a76f3944ec820da6d8d01f7223a1099359c61ff089358a0cce7", func := "seine/seinelaw15.ShiftsFar", spec := "shiftsFar", unfollowed := true, recurses := true, plainKeys := false, apart := false, narrowed := true }
def ShiftsFarUptoSaid : Prop := shiftsFarUptoRow.holds Try.pinned (OpenSpec.upto shiftsFarSpec)

/-- 'seinelaw15.ShiftsBounds', WHERE WHAT IT READS IS OF BULK AT MOST 1048576: true; the input reads as it did. -/
def shiftsBoundsUptoRow : OpenClaim := { program := "ytifbcboefopioaa", sum := "72e4ecc1aa165a76f3944ec820da6d8d01f7223a1099359c61ff089358a0cce7", func := "seine/seinelaw15.ShiftsBounds", spec := "shiftsBounds", unfollowed := true, recurses := true, plainKeys := false, apart := false, narrowed := true }
def ShiftsBoundsUptoSaid : Prop := shiftsBoundsUptoRow.holds Try.pinned (OpenSpec.upto shiftsBoundsSpec)

/-- 'seinelaw15.ShiftsSafe', WHERE WHAT IT READS IS OF BULK AT MOST 1048576: true; the input reads as it did. -/
def shiftsSafeUptoRow : OpenClaim := { program := "ytifbcboefopioaa", sum := "72e4ecc1aa165a76f3944ec820da6d8d01f7223a1099359c61ff089358a0cce7", func := "seine/seinelaw15.ShiftsSafe", spec := "shiftsSafe", unfollowed := true, recurses := true, plainKeys := false, apart := false, narrowed := true }
def ShiftsSafeUptoSaid : Prop := shiftsSafeUptoRow.holds Try.pinned (OpenSpec.upto shiftsSafeSpec)

/-- 'seinelaw15.ShiftsWider', WHERE WHAT IT READS IS OF BULK AT MOST 1048576: true; the input reads as it did. -/
def shiftsWiderUptoRow : OpenClaim := { program := "ytifbcboefopioaa", sum := "72e4ecc1aa165a76f3944ec820da6d8d01f7223a1099359c61ff089358a0cce7", func := "seine/seinelaw15.ShiftsWider", spec := "shiftsWider", unfollowed := true, recurses := true, plainKeys := false, apart := false, narrowed := true }
def ShiftsWiderUptoSaid : Prop := shiftsWiderUptoRow.holds Try.pinned (OpenSpec.upto shiftsWiderSpec)

end Rows
end Go.Proofs.Ytifbcboefopioaa
