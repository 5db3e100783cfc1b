/-
  No cell of these rows narrows 'for every input' (looked for: loops, veiled, ifaces, maps, wideKeys, modest, calm, conditions, laid).
  DERIVED. THE GIVEN ROWS OF THIS SEAT. 9 by the template 'for every input the law returns true; each argument reads behind the call as it read before'; 0 by the template 'total and deterministic' (their statements: YtfejjfbhlmjkeaaTotals.lean).
  GIVEN WITH THE SEED: the statements are not yours to turn. If you find one false, say at which input.
  Laid BY PROGRAM, IN A SANDBOX (cutbox-rows.mjs): the forced cells as the released guide's own fill.sh prints them over the translation 9f56a66cd38bb014… (all of the seat's roots in one cut). By AI agents, Wed Nov 11 2026. No macro, syntax, notation, axiom, sorry.
-/
import Derived.Test.YtfejjfbhlmjkeaaChecked
import GoSem.Claim
import GoSem.ClaimJoined
import GoSem.ClaimMapViews
import Derived.JoinedTies
import Derived.KernelRfl
namespace Go.Proofs.Ytfejjfbhlmjkeaa
/- THE CELL 'sum', in the pinned program and in every row, IS THE sha256 OF THE DUMP (.gsa) THAT YtfejjfbhlmjkeaaProg.lean LOADS. Nothing in Lean hashes anything: it is a label: what it is worth is what the hold of that sum in a sandbox is worth. -/
noncomputable def Try.pinned : Pinned := { name := "ytfejjfbhlmjkeaa", sum := "9f56a66cd38bb014ba2eae501a165fb1b0ed0c648ac30e388ca3ce3a1d576f7e", checked := Try.checked }
namespace Rows
def none {H : Type} : Left H := { results := [], args := [] }

/-- 'magpielaw03.WordRunes': WHATEVER THE INPUT: true; the input reads as it did. -/
def wordRunesSpec : ChangeSpec := { name := "wordRunes", fn := fun _ => fun
  | [d] => { results := [.lit (.bool true)], args := [d] }
  | _ => none }
def wordRunesRow : OpenClaim := { program := "ytfejjfbhlmjkeaa", sum := "9f56a66cd38bb014ba2eae501a165fb1b0ed0c648ac30e388ca3ce3a1d576f7e", func := "magpie/magpielaw03.WordRunes", spec := "wordRunes", unfollowed := true, recurses := true, apart := false }
def WordRunesSaid : Prop := wordRunesRow.holds Try.pinned (OpenSpec.ofChange wordRunesSpec)

/-- ITS FALSE NEIGHBOUR: 'it returns false'. Refute it at one input. -/
def wordRunesWrong : ChangeSpec := { name := "wordRunes", fn := fun _ => fun
  | [d] => { results := [.lit (.bool false)], args := [d] }
  | _ => none }
def WordRunesWrongFalsely : Prop := wordRunesRow.holds Try.pinned (OpenSpec.ofChange wordRunesWrong)

/-- 'magpielaw03.WordParts': WHATEVER THE INPUT: true; the input reads as it did. -/
def wordPartsSpec : ChangeSpec := { name := "wordParts", fn := fun _ => fun
  | [d1, d2] => { results := [.lit (.bool true)], args := [d1, d2] }
  | _ => none }
def wordPartsRow : OpenClaim := { program := "ytfejjfbhlmjkeaa", sum := "9f56a66cd38bb014ba2eae501a165fb1b0ed0c648ac30e388ca3ce3a1d576f7e", func := "magpie/magpielaw03.WordParts", spec := "wordParts", unfollowed := true, recurses := true, apart := false }
def WordPartsSaid : Prop := wordPartsRow.holds Try.pinned (OpenSpec.ofChange wordPartsSpec)

/-- ITS FALSE NEIGHBOUR: 'it returns false'. Refute it at one input. -/
def wordPartsWrong : ChangeSpec := { name := "wordParts", fn := fun _ => fun
  | [d1, d2] => { results := [.lit (.bool false)], args := [d1, d2] }
  | _ => none }
def WordPartsWrongFalsely : Prop := wordPartsRow.holds Try.pinned (OpenSpec.ofChange wordPartsWrong)

/-- 'magpielaw04.RecordOrder': WHATEVER THE INPUT: true; the input reads as it did. -/
def recordOrderSpec : ChangeSpec := { name := "recordOrder", fn := fun _ => fun
  | [d1, d2, d3] => { results := [.lit (.bool true)], args := [d1, d2, d3] }
  | _ => none }
def recordOrderRow : OpenClaim := { program := "ytfejjfbhlmjkeaa", sum := "9f56a66cd38bb014ba2eae501a165fb1b0ed0c648ac30e388ca3ce3a1d576f7e", func := "magpie/magpielaw04.RecordOrder", spec := "recordOrder", inPlace := ["internal/bytealg.IndexByteString", "internal/bytealg.IndexString"], unfollowed := true, recurses := true, named := ["internal/bytealg.MaxLen"], apart := false }
def RecordOrderSaid : Prop := recordOrderRow.holds Try.pinned (OpenSpec.ofChange recordOrderSpec)

/-- ITS FALSE NEIGHBOUR: 'it returns false'. Refute it at one input. -/
def recordOrderWrong : ChangeSpec := { name := "recordOrder", fn := fun _ => fun
  | [d1, d2, d3] => { results := [.lit (.bool false)], args := [d1, d2, d3] }
  | _ => none }
def RecordOrderWrongFalsely : Prop := recordOrderRow.holds Try.pinned (OpenSpec.ofChange recordOrderWrong)

/-- 'magpielaw04.RecordSorts': WHATEVER THE INPUT: true; the input reads as it did. -/
def recordSortsSpec : ChangeSpec := { name := "recordSorts", fn := fun _ => fun
  | [d1, d2, d3] => { results := [.lit (.bool true)], args := [d1, d2, d3] }
  | _ => none }
def recordSortsRow : OpenClaim := { program := "ytfejjfbhlmjkeaa", sum := "9f56a66cd38bb014ba2eae501a165fb1b0ed0c648ac30e388ca3ce3a1d576f7e", func := "magpie/magpielaw04.RecordSorts", spec := "recordSorts", inPlace := ["internal/bytealg.IndexByteString", "internal/bytealg.IndexString"], unfollowed := true, recurses := true, named := ["internal/bytealg.MaxLen"], apart := false }
def RecordSortsSaid : Prop := recordSortsRow.holds Try.pinned (OpenSpec.ofChange recordSortsSpec)

/-- ITS FALSE NEIGHBOUR: 'it returns false'. Refute it at one input. -/
def recordSortsWrong : ChangeSpec := { name := "recordSorts", fn := fun _ => fun
  | [d1, d2, d3] => { results := [.lit (.bool false)], args := [d1, d2, d3] }
  | _ => none }
def RecordSortsWrongFalsely : Prop := recordSortsRow.holds Try.pinned (OpenSpec.ofChange recordSortsWrong)

/-- 'magpielaw04.RecordNames': WHATEVER THE INPUT: true; the input reads as it did. -/
def recordNamesSpec : ChangeSpec := { name := "recordNames", fn := fun _ => fun
  | [d] => { results := [.lit (.bool true)], args := [d] }
  | _ => none }
def recordNamesRow : OpenClaim := { program := "ytfejjfbhlmjkeaa", sum := "9f56a66cd38bb014ba2eae501a165fb1b0ed0c648ac30e388ca3ce3a1d576f7e", func := "magpie/magpielaw04.RecordNames", spec := "recordNames", inPlace := ["internal/bytealg.IndexByteString", "internal/bytealg.IndexString"], unfollowed := true, recurses := true, named := ["internal/bytealg.MaxLen"], apart := false }
def RecordNamesSaid : Prop := recordNamesRow.holds Try.pinned (OpenSpec.ofChange recordNamesSpec)

/-- ITS FALSE NEIGHBOUR: 'it returns false'. Refute it at one input. -/
def recordNamesWrong : ChangeSpec := { name := "recordNames", fn := fun _ => fun
  | [d] => { results := [.lit (.bool false)], args := [d] }
  | _ => none }
def RecordNamesWrongFalsely : Prop := recordNamesRow.holds Try.pinned (OpenSpec.ofChange recordNamesWrong)

/-- 'magpielaw04.RecordStreams': WHATEVER THE INPUT: true; the input reads as it did. -/
def recordStreamsSpec : ChangeSpec := { name := "recordStreams", fn := fun _ => fun
  | [d1, d2] => { results := [.lit (.bool true)], args := [d1, d2] }
  | _ => none }
def recordStreamsRow : OpenClaim := { program := "ytfejjfbhlmjkeaa", sum := "9f56a66cd38bb014ba2eae501a165fb1b0ed0c648ac30e388ca3ce3a1d576f7e", func := "magpie/magpielaw04.RecordStreams", spec := "recordStreams", inPlace := ["internal/bytealg.IndexByteString", "internal/bytealg.IndexString"], unfollowed := true, recurses := true, named := ["internal/bytealg.MaxLen"], apart := false }
def RecordStreamsSaid : Prop := recordStreamsRow.holds Try.pinned (OpenSpec.ofChange recordStreamsSpec)

/-- ITS FALSE NEIGHBOUR: 'it returns false'. Refute it at one input. -/
def recordStreamsWrong : ChangeSpec := { name := "recordStreams", fn := fun _ => fun
  | [d1, d2] => { results := [.lit (.bool false)], args := [d1, d2] }
  | _ => none }
def RecordStreamsWrongFalsely : Prop := recordStreamsRow.holds Try.pinned (OpenSpec.ofChange recordStreamsWrong)

/-- 'magpielaw04.RecordIs': WHATEVER THE INPUT: true; the input reads as it did. -/
def recordIsSpec : ChangeSpec := { name := "recordIs", fn := fun _ => fun
  | [d1, d2, d3] => { results := [.lit (.bool true)], args := [d1, d2, d3] }
  | _ => none }
def recordIsRow : OpenClaim := { program := "ytfejjfbhlmjkeaa", sum := "9f56a66cd38bb014ba2eae501a165fb1b0ed0c648ac30e388ca3ce3a1d576f7e", func := "magpie/magpielaw04.RecordIs", spec := "recordIs", inPlace := ["internal/bytealg.IndexByteString", "internal/bytealg.IndexString"], unfollowed := true, recurses := true, named := ["internal/bytealg.MaxLen"], apart := false }
def RecordIsSaid : Prop := recordIsRow.holds Try.pinned (OpenSpec.ofChange recordIsSpec)

/-- ITS FALSE NEIGHBOUR: 'it returns false'. Refute it at one input. -/
def recordIsWrong : ChangeSpec := { name := "recordIs", fn := fun _ => fun
  | [d1, d2, d3] => { results := [.lit (.bool false)], args := [d1, d2, d3] }
  | _ => none }
def RecordIsWrongFalsely : Prop := recordIsRow.holds Try.pinned (OpenSpec.ofChange recordIsWrong)

/-- 'magpielaw04.RecordReads': WHATEVER THE INPUT: true; the input reads as it did. -/
def recordReadsSpec : ChangeSpec := { name := "recordReads", fn := fun _ => fun
  | [d] => { results := [.lit (.bool true)], args := [d] }
  | _ => none }
def recordReadsRow : OpenClaim := { program := "ytfejjfbhlmjkeaa", sum := "9f56a66cd38bb014ba2eae501a165fb1b0ed0c648ac30e388ca3ce3a1d576f7e", func := "magpie/magpielaw04.RecordReads", spec := "recordReads", inPlace := ["internal/bytealg.IndexByteString", "internal/bytealg.IndexString"], unfollowed := true, recurses := true, named := ["internal/bytealg.MaxLen"], apart := false }
def RecordReadsSaid : Prop := recordReadsRow.holds Try.pinned (OpenSpec.ofChange recordReadsSpec)

/-- ITS FALSE NEIGHBOUR: 'it returns false'. Refute it at one input. -/
def recordReadsWrong : ChangeSpec := { name := "recordReads", fn := fun _ => fun
  | [d] => { results := [.lit (.bool false)], args := [d] }
  | _ => none }
def RecordReadsWrongFalsely : Prop := recordReadsRow.holds Try.pinned (OpenSpec.ofChange recordReadsWrong)

/-- 'magpielaw04.RecordBack': WHATEVER THE INPUT: true; the input reads as it did. -/
def recordBackSpec : ChangeSpec := { name := "recordBack", fn := fun _ => fun
  | [d1, d2] => { results := [.lit (.bool true)], args := [d1, d2] }
  | _ => none }
def recordBackRow : OpenClaim := { program := "ytfejjfbhlmjkeaa", sum := "9f56a66cd38bb014ba2eae501a165fb1b0ed0c648ac30e388ca3ce3a1d576f7e", func := "magpie/magpielaw04.RecordBack", spec := "recordBack", inPlace := ["internal/bytealg.IndexByteString", "internal/bytealg.IndexString"], unfollowed := true, recurses := true, named := ["internal/bytealg.MaxLen"], apart := false }
def RecordBackSaid : Prop := recordBackRow.holds Try.pinned (OpenSpec.ofChange recordBackSpec)

/-- ITS FALSE NEIGHBOUR: 'it returns false'. Refute it at one input. -/
def recordBackWrong : ChangeSpec := { name := "recordBack", fn := fun _ => fun
  | [d1, d2] => { results := [.lit (.bool false)], args := [d1, d2] }
  | _ => none }
def RecordBackWrongFalsely : Prop := recordBackRow.holds Try.pinned (OpenSpec.ofChange recordBackWrong)

/- THE SECOND FORM. 'bulk': how many values and letters a reading holds, each counted each time it is reached (what is shared counts as often as it is met; a slice's spare places count too). A statement '..UptoSaid' is the law's where the arguments, and the package variables that the reading takes, are together of bulk at most 1048576: NARROWER than '..Said'. Prove '..Said' where nothing that the law and all that it calls make is longer than what came in: it says more and counts as full. Else prove '..UptoSaid'. A law counts once. -/
mutual
def uptoBulk {H : Type} : DataW H → Nat
  | .lit (.string bytes) => bytes.length + 1
  | .lit _ => 1
  | .nil => 1
  | .ptr d => uptoBulk d + 1
  | .slice elems spare => uptoBulkAll elems + uptoBulkAll spare + 1
  | .agg parts => uptoBulkAll parts + 1
  | .iface _ d => uptoBulk d + 1
  | .map entries => uptoBulkEntries entries + 1
  | .held _ => 1
def uptoBulkAll {H : Type} : List (DataW H) → Nat
  | [] => 0
  | d :: r => uptoBulk d + uptoBulkAll r
def uptoBulkEntries {H : Type} : List (Lit × DataW H) → Nat
  | [] => 0
  | x :: r => uptoBulkEntry x + uptoBulkEntries r
def uptoBulkEntry {H : Type} : Lit × DataW H → Nat
  | (.string bytes, d) => bytes.length + uptoBulk d + 1
  | (_, d) => uptoBulk d + 1
 end
def uptoSmall : (H : Type) → List (DataW H) → Bool := fun _ ds => decide (uptoBulkAll ds ≤ 1048576)
def OpenSpec.upto (s : _root_.Go.ChangeSpec) : _root_.Go.OpenSpec := { _root_.Go.OpenSpec.ofChange s with cond := some uptoSmall }

/-- 'magpielaw03.WordRunes', WHERE WHAT IT READS IS OF BULK AT MOST 1048576: true; the input reads as it did. -/
def wordRunesUptoRow : OpenClaim := { program := "ytfejjfbhlmjkeaa", sum := "9f56a66cd38bb014ba2eae501a165fb1b0ed0c648ac30e388ca3ce3a1d576f7e", func := "magpie/magpielaw03.WordRunes", spec := "wordRunes", unfollowed := true, recurses := true, apart := false, narrowed := true }
def WordRunesUptoSaid : Prop := wordRunesUptoRow.holds Try.pinned (OpenSpec.upto wordRunesSpec)

/-- 'magpielaw03.WordParts', WHERE WHAT IT READS IS OF BULK AT MOST 1048576: true; the input reads as it did. -/
def wordPartsUptoRow : OpenClaim := { program := "ytfejjfbhlmjkeaa", sum := "9f56a66cd38bb014ba2eae501a165fb1b0ed0c648ac30e388ca3ce3a1d576f7e", func := "magpie/magpielaw03.WordParts", spec := "wordParts", unfollowed := true, recurses := true, apart := false, narrowed := true }
def WordPartsUptoSaid : Prop := wordPartsUptoRow.holds Try.pinned (OpenSpec.upto wordPartsSpec)

/-- 'magpielaw04.RecordOrder', WHERE WHAT IT READS IS OF BULK AT MOST 1048576: true; the input reads as it did. -/
def recordOrderUptoRow : OpenClaim := { program := "ytfejjfbhlmjkeaa", sum := "9f56a66cd38bb014ba2eae501a165fb1b0ed0c648ac30e388ca3ce3a1d576f7e", func := "magpie/magpielaw04.RecordOrder", spec := "recordOrder", inPlace := ["internal/bytealg.IndexByteString", "internal/bytealg.IndexString"], unfollowed := true, recurses := true, named := ["internal/bytealg.MaxLen"], apart := false, narrowed := true }
def RecordOrderUptoSaid : Prop := recordOrderUptoRow.holds Try.pinned (OpenSpec.upto recordOrderSpec)

/-- 'magpielaw04.RecordSorts', WHERE WHAT IT READS IS OF BULK AT MOST 1048576: true; the input reads as it did. -/
def recordSortsUptoRow : OpenClaim := { program := "ytfejjfbhlmjkeaa", sum := "9f56a66cd38bb014ba2eae501a165fb1b0ed0c648ac30e388ca3ce3a1d576f7e", func := "magpie/magpielaw04.RecordSorts", spec := "recordSorts", inPlace := ["internal/bytealg.IndexByteString", "internal/bytealg.IndexString"], unfollowed := true, recurses := true, named := ["internal/bytealg.MaxLen"], apart := false, narrowed := true }
def RecordSortsUptoSaid : Prop := recordSortsUptoRow.holds Try.pinned (OpenSpec.upto recordSortsSpec)

/-- 'magpielaw04.RecordNames', WHERE WHAT IT READS IS OF BULK AT MOST 1048576: true; the input reads as it did. -/
def recordNamesUptoRow : OpenClaim := { program := "ytfejjfbhlmjkeaa", sum := "9f56a66cd38bb014ba2eae501a165fb1b0ed0c648ac30e388ca3ce3a1d576f7e", func := "magpie/magpielaw04.RecordNames", spec := "recordNames", inPlace := ["internal/bytealg.IndexByteString", "internal/bytealg.IndexString"], unfollowed := true, recurses := true, named := ["internal/bytealg.MaxLen"], apart := false, narrowed := true }
def RecordNamesUptoSaid : Prop := recordNamesUptoRow.holds Try.pinned (OpenSpec.upto recordNamesSpec)

/-- 'magpielaw04.RecordStreams', WHERE WHAT IT READS IS OF BULK AT MOST 1048576: true; the input reads as it did. -/
def recordStreamsUptoRow : OpenClaim := { program := "ytfejjfbhlmjkeaa", sum := "9f56a66cd38bb014ba2eae501a165fb1b0ed0c648ac30e388ca3ce3a1d576f7e", func := "magpie/magpielaw04.RecordStreams", spec := "recordStreams", inPlace := ["internal/bytealg.IndexByteString", "internal/bytealg.IndexString"], unfollowed := true, recurses := true, named := ["internal/bytealg.MaxLen"], apart := false, narrowed := true }
def RecordStreamsUptoSaid : Prop := recordStreamsUptoRow.holds Try.pinned (OpenSpec.upto recordStreamsSpec)

/-- 'magpielaw04.RecordIs', WHERE WHAT IT READS IS OF BULK AT MOST 1048576: true; the input reads as it did. -/
def recordIsUptoRow : OpenClaim := { program := "ytfejjfbhlmjkeaa", sum := "9f56a66cd38bb014ba2eae501a165fb1b0ed0c648ac30e388ca3ce3a1d576f7e", func := "magpie/magpielaw04.RecordIs", spec := "recordIs", inPlace := ["internal/bytealg.IndexByteString", "internal/bytealg.IndexString"], unfollowed := true, recurses := true, named := ["internal/bytealg.MaxLen"], apart := false, narrowed := true }
def RecordIsUptoSaid : Prop := recordIsUptoRow.holds Try.pinned (OpenSpec.upto recordIsSpec)

/-- 'magpielaw04.RecordReads', WHERE WHAT IT READS IS OF BULK AT MOST 1048576: true; the input reads as it did. -/
def recordReadsUptoRow : OpenClaim := { program := "ytfejjfbhlmjkeaa", sum := "9f56a66cd38bb014ba2eae501a165fb1b0ed0c648ac30e388ca3ce3a1d576f7e", func := "magpie/magpielaw04.RecordReads", spec := "recordReads", inPlace := ["internal/bytealg.IndexByteString", "internal/bytealg.IndexString"], unfollowed := true, recurses := true, named := ["internal/bytealg.MaxLen"], apart := false, narrowed := true }
def RecordReadsUptoSaid : Prop := recordReadsUptoRow.holds Try.pinned (OpenSpec.upto recordReadsSpec)

/-- 'magpielaw04.RecordBack', WHERE WHAT IT READS IS OF BULK AT MOST 1048576: true; the input reads as it did. -/
def recordBackUptoRow : OpenClaim := { program := "ytfejjfbhlmjkeaa", sum := "9f56a66cd38bb014ba2eae501a165fb1b0ed0c648ac30e388ca3ce3a1d576f7e", func := "magpie/magpielaw04.RecordBack", spec := "recordBack", inPlace := ["internal/bytealg.IndexByteString", "internal/bytealg.IndexString"], unfollowed := true, recurses := true, named := ["internal/bytealg.MaxLen"], apart := false, narrowed := true }
def RecordBackUptoSaid : Prop := recordBackUptoRow.holds Try.pinned (OpenSpec.upto recordBackSpec)

end Rows
end Go.Proofs.Ytfejjfbhlmjkeaa
