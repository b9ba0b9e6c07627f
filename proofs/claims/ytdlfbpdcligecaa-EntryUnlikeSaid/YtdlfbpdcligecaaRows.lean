/-
  No cell of these rows narrows 'for every input' (looked for: loops, veiled, ifaces, maps, wideKeys, modest, calm, conditions, laid).
  DERIVED. THE GIVEN ROWS OF THIS SEAT. 9 by the template 'for every input the law returns true; each argument reads behind the call as it read before'; 0 by the template 'total and deterministic' (their statements: YtdlfbpdcligecaaTotals.lean).
  GIVEN WITH THE SEED: the statements are not yours to turn. If you find one false, say at which input.
  Laid BY PROGRAM, IN A SANDBOX (cutbox-rows.mjs): the forced cells as the released guide's own fill.sh prints them over the translation 2afa5e71a8810b86… (all of the seat's roots in one cut). By AI agents, Wed Nov 11 2026. No macro, syntax, notation, axiom, sorry.
-/
import Derived.Test.YtdlfbpdcligecaaChecked
import GoSem.Claim
import GoSem.ClaimJoined
import GoSem.ClaimMapViews
import Derived.JoinedTies
import Derived.KernelRfl
namespace Go.Proofs.Ytdlfbpdcligecaa
/- THE CELL 'sum', in the pinned program and in every row, IS THE sha256 OF THE DUMP (.gsa) THAT YtdlfbpdcligecaaProg.lean LOADS. Nothing in Lean hashes anything: it is a label: what it is worth is what the hold of that sum in a sandbox is worth. -/
noncomputable def Try.pinned : Pinned := { name := "ytdlfbpdcligecaa", sum := "2afa5e71a8810b8675d8612c1f0dd68d46f3f50334a1424356690210876c66e1", checked := Try.checked }
namespace Rows
def none {H : Type} : Left H := { results := [], args := [] }

/-- 'reveillelaw07.EntryUnlike': WHATEVER THE INPUT: true; the input reads as it did. -/
def entryUnlikeSpec : ChangeSpec := { name := "entryUnlike", fn := fun _ => fun
  | [d1, d2] => { results := [.lit (.bool true)], args := [d1, d2] }
  | _ => none }
def entryUnlikeRow : OpenClaim := { program := "ytdlfbpdcligecaa", sum := "2afa5e71a8810b8675d8612c1f0dd68d46f3f50334a1424356690210876c66e1", func := "reveille/reveillelaw07.EntryUnlike", spec := "entryUnlike", inPlace := ["internal/abi.NoEscape"], apart := false }
def EntryUnlikeSaid : Prop := entryUnlikeRow.holds Try.pinned (OpenSpec.ofChange entryUnlikeSpec)

/-- ITS FALSE NEIGHBOUR: 'it returns false'. Refute it at one input. -/
def entryUnlikeWrong : ChangeSpec := { name := "entryUnlike", fn := fun _ => fun
  | [d1, d2] => { results := [.lit (.bool false)], args := [d1, d2] }
  | _ => none }
def EntryUnlikeWrongFalsely : Prop := entryUnlikeRow.holds Try.pinned (OpenSpec.ofChange entryUnlikeWrong)

/-- 'reveillelaw01.OctetNums': WHATEVER THE INPUT: true; the input reads as it did. -/
def octetNumsSpec : ChangeSpec := { name := "octetNums", fn := fun _ => fun
  | [d1, d2] => { results := [.lit (.bool true)], args := [d1, d2] }
  | _ => none }
def octetNumsRow : OpenClaim := { program := "ytdlfbpdcligecaa", sum := "2afa5e71a8810b8675d8612c1f0dd68d46f3f50334a1424356690210876c66e1", func := "reveille/reveillelaw01.OctetNums", spec := "octetNums", inPlace := ["internal/abi.NoEscape"], apart := false }
def OctetNumsSaid : Prop := octetNumsRow.holds Try.pinned (OpenSpec.ofChange octetNumsSpec)

/-- ITS FALSE NEIGHBOUR: 'it returns false'. Refute it at one input. -/
def octetNumsWrong : ChangeSpec := { name := "octetNums", fn := fun _ => fun
  | [d1, d2] => { results := [.lit (.bool false)], args := [d1, d2] }
  | _ => none }
def OctetNumsWrongFalsely : Prop := octetNumsRow.holds Try.pinned (OpenSpec.ofChange octetNumsWrong)

/-- 'reveillelaw01.OctetReads': WHATEVER THE INPUT: true; the input reads as it did. -/
def octetReadsSpec : ChangeSpec := { name := "octetReads", fn := fun _ => fun
  | [d1, d2, d3] => { results := [.lit (.bool true)], args := [d1, d2, d3] }
  | _ => none }
def octetReadsRow : OpenClaim := { program := "ytdlfbpdcligecaa", sum := "2afa5e71a8810b8675d8612c1f0dd68d46f3f50334a1424356690210876c66e1", func := "reveille/reveillelaw01.OctetReads", spec := "octetReads", inPlace := ["internal/abi.NoEscape"], apart := false }
def OctetReadsSaid : Prop := octetReadsRow.holds Try.pinned (OpenSpec.ofChange octetReadsSpec)

/-- ITS FALSE NEIGHBOUR: 'it returns false'. Refute it at one input. -/
def octetReadsWrong : ChangeSpec := { name := "octetReads", fn := fun _ => fun
  | [d1, d2, d3] => { results := [.lit (.bool false)], args := [d1, d2, d3] }
  | _ => none }
def OctetReadsWrongFalsely : Prop := octetReadsRow.holds Try.pinned (OpenSpec.ofChange octetReadsWrong)

/-- 'reveillelaw01.OctetTakes': WHATEVER THE INPUT: true; the input reads as it did. -/
def octetTakesSpec : ChangeSpec := { name := "octetTakes", fn := fun _ => fun
  | [d1, d2] => { results := [.lit (.bool true)], args := [d1, d2] }
  | _ => none }
def octetTakesRow : OpenClaim := { program := "ytdlfbpdcligecaa", sum := "2afa5e71a8810b8675d8612c1f0dd68d46f3f50334a1424356690210876c66e1", func := "reveille/reveillelaw01.OctetTakes", spec := "octetTakes", inPlace := ["internal/abi.NoEscape"], apart := false }
def OctetTakesSaid : Prop := octetTakesRow.holds Try.pinned (OpenSpec.ofChange octetTakesSpec)

/-- ITS FALSE NEIGHBOUR: 'it returns false'. Refute it at one input. -/
def octetTakesWrong : ChangeSpec := { name := "octetTakes", fn := fun _ => fun
  | [d1, d2] => { results := [.lit (.bool false)], args := [d1, d2] }
  | _ => none }
def OctetTakesWrongFalsely : Prop := octetTakesRow.holds Try.pinned (OpenSpec.ofChange octetTakesWrong)

/-- 'reveillelaw07.EntryPuts': WHATEVER THE INPUT: true; the input reads as it did. -/
def entryPutsSpec : ChangeSpec := { name := "entryPuts", fn := fun _ => fun
  | [d1, d2, d3] => { results := [.lit (.bool true)], args := [d1, d2, d3] }
  | _ => none }
def entryPutsRow : OpenClaim := { program := "ytdlfbpdcligecaa", sum := "2afa5e71a8810b8675d8612c1f0dd68d46f3f50334a1424356690210876c66e1", func := "reveille/reveillelaw07.EntryPuts", spec := "entryPuts", inPlace := ["internal/abi.NoEscape"], apart := false }
def EntryPutsSaid : Prop := entryPutsRow.holds Try.pinned (OpenSpec.ofChange entryPutsSpec)

/-- ITS FALSE NEIGHBOUR: 'it returns false'. Refute it at one input. -/
def entryPutsWrong : ChangeSpec := { name := "entryPuts", fn := fun _ => fun
  | [d1, d2, d3] => { results := [.lit (.bool false)], args := [d1, d2, d3] }
  | _ => none }
def EntryPutsWrongFalsely : Prop := entryPutsRow.holds Try.pinned (OpenSpec.ofChange entryPutsWrong)

/-- 'reveillelaw01.OctetTexts': WHATEVER THE INPUT: true; the input reads as it did. -/
def octetTextsSpec : ChangeSpec := { name := "octetTexts", fn := fun _ => fun
  | [d1, d2, d3] => { results := [.lit (.bool true)], args := [d1, d2, d3] }
  | _ => none }
def octetTextsRow : OpenClaim := { program := "ytdlfbpdcligecaa", sum := "2afa5e71a8810b8675d8612c1f0dd68d46f3f50334a1424356690210876c66e1", func := "reveille/reveillelaw01.OctetTexts", spec := "octetTexts", inPlace := ["internal/abi.NoEscape"], apart := false }
def OctetTextsSaid : Prop := octetTextsRow.holds Try.pinned (OpenSpec.ofChange octetTextsSpec)

/-- ITS FALSE NEIGHBOUR: 'it returns false'. Refute it at one input. -/
def octetTextsWrong : ChangeSpec := { name := "octetTexts", fn := fun _ => fun
  | [d1, d2, d3] => { results := [.lit (.bool false)], args := [d1, d2, d3] }
  | _ => none }
def OctetTextsWrongFalsely : Prop := octetTextsRow.holds Try.pinned (OpenSpec.ofChange octetTextsWrong)

/-- 'reveillelaw01.OctetJoins': WHATEVER THE INPUT: true; the input reads as it did. -/
def octetJoinsSpec : ChangeSpec := { name := "octetJoins", fn := fun _ => fun
  | [d1, d2, d3] => { results := [.lit (.bool true)], args := [d1, d2, d3] }
  | _ => none }
def octetJoinsRow : OpenClaim := { program := "ytdlfbpdcligecaa", sum := "2afa5e71a8810b8675d8612c1f0dd68d46f3f50334a1424356690210876c66e1", func := "reveille/reveillelaw01.OctetJoins", spec := "octetJoins", inPlace := ["internal/abi.NoEscape"], apart := false }
def OctetJoinsSaid : Prop := octetJoinsRow.holds Try.pinned (OpenSpec.ofChange octetJoinsSpec)

/-- ITS FALSE NEIGHBOUR: 'it returns false'. Refute it at one input. -/
def octetJoinsWrong : ChangeSpec := { name := "octetJoins", fn := fun _ => fun
  | [d1, d2, d3] => { results := [.lit (.bool false)], args := [d1, d2, d3] }
  | _ => none }
def OctetJoinsWrongFalsely : Prop := octetJoinsRow.holds Try.pinned (OpenSpec.ofChange octetJoinsWrong)

/-- 'reveillelaw01.OctetCuts': WHATEVER THE INPUT: true; the input reads as it did. -/
def octetCutsSpec : ChangeSpec := { name := "octetCuts", fn := fun _ => fun
  | [d1, d2] => { results := [.lit (.bool true)], args := [d1, d2] }
  | _ => none }
def octetCutsRow : OpenClaim := { program := "ytdlfbpdcligecaa", sum := "2afa5e71a8810b8675d8612c1f0dd68d46f3f50334a1424356690210876c66e1", func := "reveille/reveillelaw01.OctetCuts", spec := "octetCuts", inPlace := ["internal/abi.NoEscape"], apart := false }
def OctetCutsSaid : Prop := octetCutsRow.holds Try.pinned (OpenSpec.ofChange octetCutsSpec)

/-- ITS FALSE NEIGHBOUR: 'it returns false'. Refute it at one input. -/
def octetCutsWrong : ChangeSpec := { name := "octetCuts", fn := fun _ => fun
  | [d1, d2] => { results := [.lit (.bool false)], args := [d1, d2] }
  | _ => none }
def OctetCutsWrongFalsely : Prop := octetCutsRow.holds Try.pinned (OpenSpec.ofChange octetCutsWrong)

/-- 'reveillelaw07.EntryGets': WHATEVER THE INPUT: true; the input reads as it did. -/
def entryGetsSpec : ChangeSpec := { name := "entryGets", fn := fun _ => fun
  | [d] => { results := [.lit (.bool true)], args := [d] }
  | _ => none }
def entryGetsRow : OpenClaim := { program := "ytdlfbpdcligecaa", sum := "2afa5e71a8810b8675d8612c1f0dd68d46f3f50334a1424356690210876c66e1", func := "reveille/reveillelaw07.EntryGets", spec := "entryGets", inPlace := ["internal/abi.NoEscape"], apart := false }
def EntryGetsSaid : Prop := entryGetsRow.holds Try.pinned (OpenSpec.ofChange entryGetsSpec)

/-- ITS FALSE NEIGHBOUR: 'it returns false'. Refute it at one input. -/
def entryGetsWrong : ChangeSpec := { name := "entryGets", fn := fun _ => fun
  | [d] => { results := [.lit (.bool false)], args := [d] }
  | _ => none }
def EntryGetsWrongFalsely : Prop := entryGetsRow.holds Try.pinned (OpenSpec.ofChange entryGetsWrong)

/- THE SECOND FORM. 'bulk': how many values and letters a reading holds, each counted each time it is reached (what is shared counts as often as it is met; a slice's spare places count too). A statement '..UptoSaid' is the law's where the arguments, and the package variables that the reading takes, are together of bulk at most 1048576: NARROWER than '..Said'. Prove '..Said' where nothing that the law and all that it calls make is longer than what came in: it says more and counts as full. Else prove '..UptoSaid'. A law counts once. -/
mutual
def uptoBulk {H : Type} : DataW H → Nat
  | .lit (.string bytes) => bytes.length + 1
  | .lit _ => 1
  | .nil => 1
  | .ptr d => uptoBulk d + 1
  | .slice elems spare => uptoBulkAll elems + uptoBulkAll spare + 1
  | .agg parts => uptoBulkAll parts + 1
  | .iface _ d => uptoBulk d + 1
  | .map entries => uptoBulkEntries entries + 1
  | .held _ => 1
def uptoBulkAll {H : Type} : List (DataW H) → Nat
  | [] => 0
  | d :: r => uptoBulk d + uptoBulkAll r
def uptoBulkEntries {H : Type} : List (Lit × DataW H) → Nat
  | [] => 0
  | x :: r => uptoBulkEntry x + uptoBulkEntries r
def uptoBulkEntry {H : Type} : Lit × DataW H → Nat
  | (.string bytes, d) => bytes.length + uptoBulk d + 1
  | (_, d) => uptoBulk d + 1
 end
def uptoSmall : (H : Type) → List (DataW H) → Bool := fun _ ds => decide (uptoBulkAll ds ≤ 1048576)
def OpenSpec.upto (s : _root_.Go.ChangeSpec) : _root_.Go.OpenSpec := { _root_.Go.OpenSpec.ofChange s with cond := some uptoSmall }

/-- 'reveillelaw07.EntryUnlike', WHERE WHAT IT READS IS OF BULK AT MOST 1048576: true; the input reads as it did. -/
def entryUnlikeUptoRow : OpenClaim := { program := "ytdlfbpdcligecaa", sum := "2afa5e71a8810b8675d8612c1f0dd68d46f3f50334a1424356690210876c66e1", func := "reveille/reveillelaw07.EntryUnlike", spec := "entryUnlike", inPlace := ["internal/abi.NoEscape"], apart := false, narrowed := true }
def EntryUnlikeUptoSaid : Prop := entryUnlikeUptoRow.holds Try.pinned (OpenSpec.upto entryUnlikeSpec)

/-- 'reveillelaw01.OctetNums', WHERE WHAT IT READS IS OF BULK AT MOST 1048576: true; the input reads as it did. -/
def octetNumsUptoRow : OpenClaim := { program := "ytdlfbpdcligecaa", sum := "2afa5e71a8810b8675d8612c1f0dd68d46f3f50334a1424356690210876c66e1", func := "reveille/reveillelaw01.OctetNums", spec := "octetNums", inPlace := ["internal/abi.NoEscape"], apart := false, narrowed := true }
def OctetNumsUptoSaid : Prop := octetNumsUptoRow.holds Try.pinned (OpenSpec.upto octetNumsSpec)

/-- 'reveillelaw01.OctetReads', WHERE WHAT IT READS IS OF BULK AT MOST 1048576: true; the input reads as it did. -/
def octetReadsUptoRow : OpenClaim := { program := "ytdlfbpdcligecaa", sum := "2afa5e71a8810b8675d8612c1f0dd68d46f3f50334a1424356690210876c66e1", func := "reveille/reveillelaw01.OctetReads", spec := "octetReads", inPlace := ["internal/abi.NoEscape"], apart := false, narrowed := true }
def OctetReadsUptoSaid : Prop := octetReadsUptoRow.holds Try.pinned (OpenSpec.upto octetReadsSpec)

/-- 'reveillelaw01.OctetTakes', WHERE WHAT IT READS IS OF BULK AT MOST 1048576: true; the input reads as it did. -/
def octetTakesUptoRow : OpenClaim := { program := "ytdlfbpdcligecaa", sum := "2afa5e71a8810b8675d8612c1f0dd68d46f3f50334a1424356690210876c66e1", func := "reveille/reveillelaw01.OctetTakes", spec := "octetTakes", inPlace := ["internal/abi.NoEscape"], apart := false, narrowed := true }
def OctetTakesUptoSaid : Prop := octetTakesUptoRow.holds Try.pinned (OpenSpec.upto octetTakesSpec)

/-- 'reveillelaw07.EntryPuts', WHERE WHAT IT READS IS OF BULK AT MOST 1048576: true; the input reads as it did. -/
def entryPutsUptoRow : OpenClaim := { program := "ytdlfbpdcligecaa", sum := "2afa5e71a8810b8675d8612c1f0dd68d46f3f50334a1424356690210876c66e1", func := "reveille/reveillelaw07.EntryPuts", spec := "entryPuts", inPlace := ["internal/abi.NoEscape"], apart := false, narrowed := true }
def EntryPutsUptoSaid : Prop := entryPutsUptoRow.holds Try.pinned (OpenSpec.upto entryPutsSpec)

/-- 'reveillelaw01.OctetTexts', WHERE WHAT IT READS IS OF BULK AT MOST 1048576: true; the input reads as it did. -/
def octetTextsUptoRow : OpenClaim := { program := "ytdlfbpdcligecaa", sum := "2afa5e71a8810b8675d8612c1f0dd68d46f3f50334a1424356690210876c66e1", func := "reveille/reveillelaw01.OctetTexts", spec := "octetTexts", inPlace := ["internal/abi.NoEscape"], apart := false, narrowed := true }
def OctetTextsUptoSaid : Prop := octetTextsUptoRow.holds Try.pinned (OpenSpec.upto octetTextsSpec)

/-- 'reveillelaw01.OctetJoins', WHERE WHAT IT READS IS OF BULK AT MOST 1048576: true; the input reads as it did. -/
def octetJoinsUptoRow : OpenClaim := { program := "ytdlfbpdcligecaa", sum := "2afa5e71a8810b8675d8612c1f0dd68d46f3f50334a1424356690210876c66e1", func := "reveille/reveillelaw01.OctetJoins", spec := "octetJoins", inPlace := ["internal/abi.NoEscape"], apart := false, narrowed := true }
def OctetJoinsUptoSaid : Prop := octetJoinsUptoRow.holds Try.pinned (OpenSpec.upto octetJoinsSpec)

/-- 'reveillelaw01.OctetCuts', WHERE WHAT IT READS IS OF BULK AT MOST 1048576: true; the input reads as it did. -/
def octetCutsUptoRow : OpenClaim := { program := "ytdlfbpdcligecaa", sum := "2afa5e71a8810b8675d8612c1f0dd68d46f3f50334a1424356690210876c66e1", func := "reveille/reveillelaw01.OctetCuts", spec := "octetCuts", inPlace := ["internal/abi.NoEscape"], apart := false, narrowed := true }
def OctetCutsUptoSaid : Prop := octetCutsUptoRow.holds Try.pinned (OpenSpec.upto octetCutsSpec)

/-- 'reveillelaw07.EntryGets', WHERE WHAT IT READS IS OF BULK AT MOST 1048576: true; the input reads as it did. -/
def entryGetsUptoRow : OpenClaim := { program := "ytdlfbpdcligecaa", sum := "2afa5e71a8810b8675d8612c1f0dd68d46f3f50334a1424356690210876c66e1", func := "reveille/reveillelaw07.EntryGets", spec := "entryGets", inPlace := ["internal/abi.NoEscape"], apart := false, narrowed := true }
def EntryGetsUptoSaid : Prop := entryGetsUptoRow.holds Try.pinned (OpenSpec.upto entryGetsSpec)

end Rows
end Go.Proofs.Ytdlfbpdcligecaa
