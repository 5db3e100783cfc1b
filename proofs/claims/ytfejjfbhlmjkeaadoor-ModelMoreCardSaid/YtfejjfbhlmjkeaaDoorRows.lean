/-
  NARROWER THAN 'FOR EVERY INPUT', by the rows' own cells (each row's printed sentence says how): WordIs: laid · WordStands: laid · MatchNot: laid · MatchStands: laid · MatchOrder: laid · MatchIs: laid · MatchParts: laid · ModelRows: laid · ModelMore: laid.
  DERIVED. THE GIVEN ROWS OF THIS SEAT. 9 by the template 'for every input the law returns true; each argument reads behind the call as it read before'; 0 by the template 'total and deterministic' (their statements: YtfejjfbhlmjkeaaDoorTotals.lean).
  GIVEN WITH THE SEED: the statements are not yours to turn. If you find one false, say at which input.
  Laid BY PROGRAM, IN A SANDBOX (cutbox-rows.mjs): the forced cells as the released guide's own fill.sh prints them over the translation 412efd048e8811ba… (all of the seat's roots in one cut). By AI agents, Wed Nov 11 2026. No macro, syntax, notation, axiom, sorry.
-/
import Derived.Test.YtfejjfbhlmjkeaaDoorChecked
import GoSem.PinnedTables
import GoSem.Claim
import GoSem.ClaimJoined
import GoSem.ClaimMapViews
import Derived.JoinedTies
import Derived.KernelRfl
namespace Go.Proofs.YtfejjfbhlmjkeaaDoor
/- THE CELL 'sum', in the pinned program and in every row, IS THE sha256 OF THE DUMP (.gsa) THAT YtfejjfbhlmjkeaaDoorProg.lean LOADS. Nothing in Lean hashes anything: it is a label: what it is worth is what the hold of that sum in a sandbox is worth. -/
noncomputable def Tryd.pinned : Pinned := { name := "ytfejjfbhlmjkeaadoor", sum := "412efd048e8811baae12a510bd5d5f6128abc429faa9718f21fa4a62eac58109", checked := Tryd.checked }
namespace Rows
def none {H : Type} : Left H := { results := [], args := [] }

/- WHAT THE LISTED PACKAGE-LEVEL VARIABLES READ AS WHEN THE CALL BEGINS. Each datum BY PROGRAM (the guide's laid-datum.mjs) off the statement by which the dump's own 'gosem.cut.vars' lays the variable. In a bare row this is a premise. The card (YtfejjfbhlmjkeaaDoorCards.lean) ties it to the program's text. -/
def laid_unicode_utf8_acceptRanges {H : Type} : DataW H := .agg [.agg [.lit (.int .u8 128), .lit (.int .u8 191)], .agg [.lit (.int .u8 160), .lit (.int .u8 191)], .agg [.lit (.int .u8 128), .lit (.int .u8 159)], .agg [.lit (.int .u8 144), .lit (.int .u8 191)], .agg [.lit (.int .u8 128), .lit (.int .u8 143)], .agg [.lit (.int .u8 0), .lit (.int .u8 0)], .agg [.lit (.int .u8 0), .lit (.int .u8 0)], .agg [.lit (.int .u8 0), .lit (.int .u8 0)], .agg [.lit (.int .u8 0), .lit (.int .u8 0)], .agg [.lit (.int .u8 0), .lit (.int .u8 0)], .agg [.lit (.int .u8 0), .lit (.int .u8 0)], .agg [.lit (.int .u8 0), .lit (.int .u8 0)], .agg [.lit (.int .u8 0), .lit (.int .u8 0)], .agg [.lit (.int .u8 0), .lit (.int .u8 0)], .agg [.lit (.int .u8 0), .lit (.int .u8 0)], .agg [.lit (.int .u8 0), .lit (.int .u8 0)]]
/-- One of Go's own tables, pinned by name: the form's constant. -/
def laid_unicode_utf8_first : DataW Unit := Go.Pinned.utf8First

/-- 'magpielaw03.WordIs': WHATEVER THE INPUT: true; the input reads as it did. -/
def wordIsSpec : ChangeSpec := { name := "wordIs", fn := fun _ => fun
  | [d1, d2, d3] => { results := [.lit (.bool true)], args := [d1, d2, d3] }
  | _ => none }
def wordIsRow : OpenClaim := { program := "ytfejjfbhlmjkeaadoor", sum := "412efd048e8811baae12a510bd5d5f6128abc429faa9718f21fa4a62eac58109", func := "magpie/magpielaw03.WordIs", spec := "wordIs", unfollowed := true, recurses := true, named := ["unicode/utf8.first", "unicode/utf8.acceptRanges"], apart := false, laid := [("unicode/utf8.acceptRanges", laid_unicode_utf8_acceptRanges), ("unicode/utf8.first", laid_unicode_utf8_first)] }
def WordIsSaid : Prop := wordIsRow.holds Tryd.pinned (OpenSpec.ofChange wordIsSpec)

/-- ITS FALSE NEIGHBOUR: 'it returns false'. Refute it at one input. -/
def wordIsWrong : ChangeSpec := { name := "wordIs", fn := fun _ => fun
  | [d1, d2, d3] => { results := [.lit (.bool false)], args := [d1, d2, d3] }
  | _ => none }
def WordIsWrongFalsely : Prop := wordIsRow.holds Tryd.pinned (OpenSpec.ofChange wordIsWrong)

/-- 'magpielaw03.WordStands': WHATEVER THE INPUT: true; the input reads as it did. -/
def wordStandsSpec : ChangeSpec := { name := "wordStands", fn := fun _ => fun
  | [d1, d2] => { results := [.lit (.bool true)], args := [d1, d2] }
  | _ => none }
def wordStandsRow : OpenClaim := { program := "ytfejjfbhlmjkeaadoor", sum := "412efd048e8811baae12a510bd5d5f6128abc429faa9718f21fa4a62eac58109", func := "magpie/magpielaw03.WordStands", spec := "wordStands", inPlace := ["internal/bytealg.IndexByteString", "internal/bytealg.IndexString"], unfollowed := true, recurses := true, named := ["internal/bytealg.MaxLen", "unicode/utf8.first", "unicode/utf8.acceptRanges"], apart := false, laid := [("unicode/utf8.acceptRanges", laid_unicode_utf8_acceptRanges), ("unicode/utf8.first", laid_unicode_utf8_first)] }
def WordStandsSaid : Prop := wordStandsRow.holds Tryd.pinned (OpenSpec.ofChange wordStandsSpec)

/-- ITS FALSE NEIGHBOUR: 'it returns false'. Refute it at one input. -/
def wordStandsWrong : ChangeSpec := { name := "wordStands", fn := fun _ => fun
  | [d1, d2] => { results := [.lit (.bool false)], args := [d1, d2] }
  | _ => none }
def WordStandsWrongFalsely : Prop := wordStandsRow.holds Tryd.pinned (OpenSpec.ofChange wordStandsWrong)

/-- 'magpielaw09.MatchNot': WHATEVER THE INPUT: true; the input reads as it did. -/
def matchNotSpec : ChangeSpec := { name := "matchNot", fn := fun _ => fun
  | [d1, d2, d3] => { results := [.lit (.bool true)], args := [d1, d2, d3] }
  | _ => none }
def matchNotRow : OpenClaim := { program := "ytfejjfbhlmjkeaadoor", sum := "412efd048e8811baae12a510bd5d5f6128abc429faa9718f21fa4a62eac58109", func := "magpie/magpielaw09.MatchNot", spec := "matchNot", inPlace := ["internal/bytealg.IndexByteString", "internal/bytealg.IndexString", "internal/bytealg.CountString"], unfollowed := true, recurses := true, named := ["internal/bytealg.MaxLen", "unicode/utf8.first", "unicode/utf8.acceptRanges"], apart := false, laid := [("unicode/utf8.acceptRanges", laid_unicode_utf8_acceptRanges), ("unicode/utf8.first", laid_unicode_utf8_first)] }
def MatchNotSaid : Prop := matchNotRow.holds Tryd.pinned (OpenSpec.ofChange matchNotSpec)

/-- ITS FALSE NEIGHBOUR: 'it returns false'. Refute it at one input. -/
def matchNotWrong : ChangeSpec := { name := "matchNot", fn := fun _ => fun
  | [d1, d2, d3] => { results := [.lit (.bool false)], args := [d1, d2, d3] }
  | _ => none }
def MatchNotWrongFalsely : Prop := matchNotRow.holds Tryd.pinned (OpenSpec.ofChange matchNotWrong)

/-- 'magpielaw09.MatchStands': WHATEVER THE INPUT: true; the input reads as it did. -/
def matchStandsSpec : ChangeSpec := { name := "matchStands", fn := fun _ => fun
  | [d1, d2, d3] => { results := [.lit (.bool true)], args := [d1, d2, d3] }
  | _ => none }
def matchStandsRow : OpenClaim := { program := "ytfejjfbhlmjkeaadoor", sum := "412efd048e8811baae12a510bd5d5f6128abc429faa9718f21fa4a62eac58109", func := "magpie/magpielaw09.MatchStands", spec := "matchStands", inPlace := ["internal/bytealg.IndexByteString", "internal/bytealg.IndexString", "internal/bytealg.CountString"], unfollowed := true, recurses := true, named := ["internal/bytealg.MaxLen", "unicode/utf8.first", "unicode/utf8.acceptRanges"], apart := false, laid := [("unicode/utf8.acceptRanges", laid_unicode_utf8_acceptRanges), ("unicode/utf8.first", laid_unicode_utf8_first)] }
def MatchStandsSaid : Prop := matchStandsRow.holds Tryd.pinned (OpenSpec.ofChange matchStandsSpec)

/-- ITS FALSE NEIGHBOUR: 'it returns false'. Refute it at one input. -/
def matchStandsWrong : ChangeSpec := { name := "matchStands", fn := fun _ => fun
  | [d1, d2, d3] => { results := [.lit (.bool false)], args := [d1, d2, d3] }
  | _ => none }
def MatchStandsWrongFalsely : Prop := matchStandsRow.holds Tryd.pinned (OpenSpec.ofChange matchStandsWrong)

/-- 'magpielaw09.MatchOrder': WHATEVER THE INPUT: true; the input reads as it did. -/
def matchOrderSpec : ChangeSpec := { name := "matchOrder", fn := fun _ => fun
  | [d1, d2, d3] => { results := [.lit (.bool true)], args := [d1, d2, d3] }
  | _ => none }
def matchOrderRow : OpenClaim := { program := "ytfejjfbhlmjkeaadoor", sum := "412efd048e8811baae12a510bd5d5f6128abc429faa9718f21fa4a62eac58109", func := "magpie/magpielaw09.MatchOrder", spec := "matchOrder", inPlace := ["internal/bytealg.IndexByteString", "internal/bytealg.IndexString", "internal/bytealg.CountString"], unfollowed := true, recurses := true, named := ["internal/bytealg.MaxLen", "unicode/utf8.first", "unicode/utf8.acceptRanges"], apart := false, laid := [("unicode/utf8.acceptRanges", laid_unicode_utf8_acceptRanges), ("unicode/utf8.first", laid_unicode_utf8_first)] }
def MatchOrderSaid : Prop := matchOrderRow.holds Tryd.pinned (OpenSpec.ofChange matchOrderSpec)

/-- ITS FALSE NEIGHBOUR: 'it returns false'. Refute it at one input. -/
def matchOrderWrong : ChangeSpec := { name := "matchOrder", fn := fun _ => fun
  | [d1, d2, d3] => { results := [.lit (.bool false)], args := [d1, d2, d3] }
  | _ => none }
def MatchOrderWrongFalsely : Prop := matchOrderRow.holds Tryd.pinned (OpenSpec.ofChange matchOrderWrong)

/-- 'magpielaw09.MatchIs': WHATEVER THE INPUT: true; the input reads as it did. -/
def matchIsSpec : ChangeSpec := { name := "matchIs", fn := fun _ => fun
  | [d1, d2] => { results := [.lit (.bool true)], args := [d1, d2] }
  | _ => none }
def matchIsRow : OpenClaim := { program := "ytfejjfbhlmjkeaadoor", sum := "412efd048e8811baae12a510bd5d5f6128abc429faa9718f21fa4a62eac58109", func := "magpie/magpielaw09.MatchIs", spec := "matchIs", inPlace := ["internal/bytealg.IndexByteString", "internal/bytealg.IndexString", "internal/bytealg.CountString"], unfollowed := true, recurses := true, named := ["internal/bytealg.MaxLen", "unicode/utf8.first", "unicode/utf8.acceptRanges"], apart := false, laid := [("unicode/utf8.acceptRanges", laid_unicode_utf8_acceptRanges), ("unicode/utf8.first", laid_unicode_utf8_first)] }
def MatchIsSaid : Prop := matchIsRow.holds Tryd.pinned (OpenSpec.ofChange matchIsSpec)

/-- ITS FALSE NEIGHBOUR: 'it returns false'. Refute it at one input. -/
def matchIsWrong : ChangeSpec := { name := "matchIs", fn := fun _ => fun
  | [d1, d2] => { results := [.lit (.bool false)], args := [d1, d2] }
  | _ => none }
def MatchIsWrongFalsely : Prop := matchIsRow.holds Tryd.pinned (OpenSpec.ofChange matchIsWrong)

/-- 'magpielaw09.MatchParts': WHATEVER THE INPUT: true; the input reads as it did. -/
def matchPartsSpec : ChangeSpec := { name := "matchParts", fn := fun _ => fun
  | [d1, d2] => { results := [.lit (.bool true)], args := [d1, d2] }
  | _ => none }
def matchPartsRow : OpenClaim := { program := "ytfejjfbhlmjkeaadoor", sum := "412efd048e8811baae12a510bd5d5f6128abc429faa9718f21fa4a62eac58109", func := "magpie/magpielaw09.MatchParts", spec := "matchParts", inPlace := ["internal/bytealg.IndexByteString", "internal/bytealg.IndexString", "internal/bytealg.CountString"], unfollowed := true, recurses := true, named := ["internal/bytealg.MaxLen", "unicode/utf8.first", "unicode/utf8.acceptRanges"], apart := false, laid := [("unicode/utf8.acceptRanges", laid_unicode_utf8_acceptRanges), ("unicode/utf8.first", laid_unicode_utf8_first)] }
def MatchPartsSaid : Prop := matchPartsRow.holds Tryd.pinned (OpenSpec.ofChange matchPartsSpec)

/-- ITS FALSE NEIGHBOUR: 'it returns false'. Refute it at one input. -/
def matchPartsWrong : ChangeSpec := { name := "matchParts", fn := fun _ => fun
  | [d1, d2] => { results := [.lit (.bool false)], args := [d1, d2] }
  | _ => none }
def MatchPartsWrongFalsely : Prop := matchPartsRow.holds Tryd.pinned (OpenSpec.ofChange matchPartsWrong)

/-- 'magpielaw11.ModelRows': WHATEVER THE INPUT: true; the input reads as it did. -/
def modelRowsSpec : ChangeSpec := { name := "modelRows", fn := fun _ => fun
  | [d1, d2] => { results := [.lit (.bool true)], args := [d1, d2] }
  | _ => none }
def modelRowsRow : OpenClaim := { program := "ytfejjfbhlmjkeaadoor", sum := "412efd048e8811baae12a510bd5d5f6128abc429faa9718f21fa4a62eac58109", func := "magpie/magpielaw11.ModelRows", spec := "modelRows", inPlace := ["internal/bytealg.IndexByteString", "internal/bytealg.IndexString", "internal/bytealg.CountString"], unfollowed := true, recurses := true, named := ["internal/bytealg.MaxLen", "unicode/utf8.first", "unicode/utf8.acceptRanges"], apart := false, laid := [("unicode/utf8.acceptRanges", laid_unicode_utf8_acceptRanges), ("unicode/utf8.first", laid_unicode_utf8_first)] }
def ModelRowsSaid : Prop := modelRowsRow.holds Tryd.pinned (OpenSpec.ofChange modelRowsSpec)

/-- ITS FALSE NEIGHBOUR: 'it returns false'. Refute it at one input. -/
def modelRowsWrong : ChangeSpec := { name := "modelRows", fn := fun _ => fun
  | [d1, d2] => { results := [.lit (.bool false)], args := [d1, d2] }
  | _ => none }
def ModelRowsWrongFalsely : Prop := modelRowsRow.holds Tryd.pinned (OpenSpec.ofChange modelRowsWrong)

/-- 'magpielaw11.ModelMore': WHATEVER THE INPUT: true; the input reads as it did. -/
def modelMoreSpec : ChangeSpec := { name := "modelMore", fn := fun _ => fun
  | [d1, d2, d3] => { results := [.lit (.bool true)], args := [d1, d2, d3] }
  | _ => none }
def modelMoreRow : OpenClaim := { program := "ytfejjfbhlmjkeaadoor", sum := "412efd048e8811baae12a510bd5d5f6128abc429faa9718f21fa4a62eac58109", func := "magpie/magpielaw11.ModelMore", spec := "modelMore", inPlace := ["internal/bytealg.IndexByteString", "internal/bytealg.IndexString", "internal/bytealg.CountString"], unfollowed := true, recurses := true, named := ["internal/bytealg.MaxLen", "unicode/utf8.first", "unicode/utf8.acceptRanges"], apart := false, laid := [("unicode/utf8.acceptRanges", laid_unicode_utf8_acceptRanges), ("unicode/utf8.first", laid_unicode_utf8_first)] }
def ModelMoreSaid : Prop := modelMoreRow.holds Tryd.pinned (OpenSpec.ofChange modelMoreSpec)

/-- ITS FALSE NEIGHBOUR: 'it returns false'. Refute it at one input. -/
def modelMoreWrong : ChangeSpec := { name := "modelMore", fn := fun _ => fun
  | [d1, d2, d3] => { results := [.lit (.bool false)], args := [d1, d2, d3] }
  | _ => none }
def ModelMoreWrongFalsely : Prop := modelMoreRow.holds Tryd.pinned (OpenSpec.ofChange modelMoreWrong)

/- THE SECOND FORM. 'bulk': how many values and letters a reading holds, each counted each time it is reached (what is shared counts as often as it is met; a slice's spare places count too). A statement '..UptoSaid' is the law's where the arguments, and the package variables that the reading takes, are together of bulk at most 1048576: NARROWER than '..Said'. Prove '..Said' where nothing that the law and all that it calls make is longer than what came in: it says more and counts as full. Else prove '..UptoSaid'. A law counts once. -/
mutual
def uptoBulk {H : Type} : DataW H → Nat
  | .lit (.string bytes) => bytes.length + 1
  | .lit _ => 1
  | .nil => 1
  | .ptr d => uptoBulk d + 1
  | .slice elems spare => uptoBulkAll elems + uptoBulkAll spare + 1
  | .agg parts => uptoBulkAll parts + 1
  | .iface _ d => uptoBulk d + 1
  | .map entries => uptoBulkEntries entries + 1
  | .held _ => 1
def uptoBulkAll {H : Type} : List (DataW H) → Nat
  | [] => 0
  | d :: r => uptoBulk d + uptoBulkAll r
def uptoBulkEntries {H : Type} : List (Lit × DataW H) → Nat
  | [] => 0
  | x :: r => uptoBulkEntry x + uptoBulkEntries r
def uptoBulkEntry {H : Type} : Lit × DataW H → Nat
  | (.string bytes, d) => bytes.length + uptoBulk d + 1
  | (_, d) => uptoBulk d + 1
 end
def uptoSmall : (H : Type) → List (DataW H) → Bool := fun _ ds => decide (uptoBulkAll ds ≤ 1048576)
def OpenSpec.upto (s : _root_.Go.ChangeSpec) : _root_.Go.OpenSpec := { _root_.Go.OpenSpec.ofChange s with cond := some uptoSmall }

/-- 'magpielaw03.WordIs', WHERE WHAT IT READS IS OF BULK AT MOST 1048576: true; the input reads as it did. -/
def wordIsUptoRow : OpenClaim := { program := "ytfejjfbhlmjkeaadoor", sum := "412efd048e8811baae12a510bd5d5f6128abc429faa9718f21fa4a62eac58109", func := "magpie/magpielaw03.WordIs", spec := "wordIs", unfollowed := true, recurses := true, named := ["unicode/utf8.first", "unicode/utf8.acceptRanges"], apart := false, laid := [("unicode/utf8.acceptRanges", laid_unicode_utf8_acceptRanges), ("unicode/utf8.first", laid_unicode_utf8_first)], narrowed := true }
def WordIsUptoSaid : Prop := wordIsUptoRow.holds Tryd.pinned (OpenSpec.upto wordIsSpec)

/-- 'magpielaw03.WordStands', WHERE WHAT IT READS IS OF BULK AT MOST 1048576: true; the input reads as it did. -/
def wordStandsUptoRow : OpenClaim := { program := "ytfejjfbhlmjkeaadoor", sum := "412efd048e8811baae12a510bd5d5f6128abc429faa9718f21fa4a62eac58109", func := "magpie/magpielaw03.WordStands", spec := "wordStands", inPlace := ["internal/bytealg.IndexByteString", "internal/bytealg.IndexString"], unfollowed := true, recurses := true, named := ["internal/bytealg.MaxLen", "unicode/utf8.first", "unicode/utf8.acceptRanges"], apart := false, laid := [("unicode/utf8.acceptRanges", laid_unicode_utf8_acceptRanges), ("unicode/utf8.first", laid_unicode_utf8_first)], narrowed := true }
def WordStandsUptoSaid : Prop := wordStandsUptoRow.holds Tryd.pinned (OpenSpec.upto wordStandsSpec)

/-- 'magpielaw09.MatchNot', WHERE WHAT IT READS IS OF BULK AT MOST 1048576: true; the input reads as it did. -/
def matchNotUptoRow : OpenClaim := { program := "ytfejjfbhlmjkeaadoor", sum := "412efd048e8811baae12a510bd5d5f6128abc429faa9718f21fa4a62eac58109", func := "magpie/magpielaw09.MatchNot", spec := "matchNot", inPlace := ["internal/bytealg.IndexByteString", "internal/bytealg.IndexString", "internal/bytealg.CountString"], unfollowed := true, recurses := true, named := ["internal/bytealg.MaxLen", "unicode/utf8.first", "unicode/utf8.acceptRanges"], apart := false, laid := [("unicode/utf8.acceptRanges", laid_unicode_utf8_acceptRanges), ("unicode/utf8.first", laid_unicode_utf8_first)], narrowed := true }
def MatchNotUptoSaid : Prop := matchNotUptoRow.holds Tryd.pinned (OpenSpec.upto matchNotSpec)

/-- 'magpielaw09.MatchStands', WHERE WHAT IT READS IS OF BULK AT MOST 1048576: true; the input reads as it did. -/
def matchStandsUptoRow : OpenClaim := { program := "ytfejjfbhlmjkeaadoor", sum := "412efd048e8811baae12a510bd5d5f6128abc429faa9718f21fa4a62eac58109", func := "magpie/magpielaw09.MatchStands", spec := "matchStands", inPlace := ["internal/bytealg.IndexByteString", "internal/bytealg.IndexString", "internal/bytealg.CountString"], unfollowed := true, recurses := true, named := ["internal/bytealg.MaxLen", "unicode/utf8.first", "unicode/utf8.acceptRanges"], apart := false, laid := [("unicode/utf8.acceptRanges", laid_unicode_utf8_acceptRanges), ("unicode/utf8.first", laid_unicode_utf8_first)], narrowed := true }
def MatchStandsUptoSaid : Prop := matchStandsUptoRow.holds Tryd.pinned (OpenSpec.upto matchStandsSpec)

/-- 'magpielaw09.MatchOrder', WHERE WHAT IT READS IS OF BULK AT MOST 1048576: true; the input reads as it did. -/
def matchOrderUptoRow : OpenClaim := { program := "ytfejjfbhlmjkeaadoor", sum := "412efd048e8811baae12a510bd5d5f6128abc429faa9718f21fa4a62eac58109", func := "magpie/magpielaw09.MatchOrder", spec := "matchOrder", inPlace := ["internal/bytealg.IndexByteString", "internal/bytealg.IndexString", "internal/bytealg.CountString"], unfollowed := true, recurses := true, named := ["internal/bytealg.MaxLen", "unicode/utf8.first", "unicode/utf8.acceptRanges"], apart := false, laid := [("unicode/utf8.acceptRanges", laid_unicode_utf8_acceptRanges), ("unicode/utf8.first", laid_unicode_utf8_first)], narrowed := true }
def MatchOrderUptoSaid : Prop := matchOrderUptoRow.holds Tryd.pinned (OpenSpec.upto matchOrderSpec)

/-- 'magpielaw09.MatchIs', WHERE WHAT IT READS IS OF BULK AT MOST 1048576: true; the input reads as it did. -/
def matchIsUptoRow : OpenClaim := { program := "ytfejjfbhlmjkeaadoor", sum := "412efd048e8811baae12a510bd5d5f6128abc429faa9718f21fa4a62eac58109", func := "magpie/magpielaw09.MatchIs", spec := "matchIs", inPlace := ["internal/bytealg.IndexByteString", "internal/bytealg.IndexString", "internal/bytealg.CountString"], unfollowed := true, recurses := true, named := ["internal/bytealg.MaxLen", "unicode/utf8.first", "unicode/utf8.acceptRanges"], apart := false, laid := [("unicode/utf8.acceptRanges", laid_unicode_utf8_acceptRanges), ("unicode/utf8.first", laid_unicode_utf8_first)], narrowed := true }
def MatchIsUptoSaid : Prop := matchIsUptoRow.holds Tryd.pinned (OpenSpec.upto matchIsSpec)

/-- 'magpielaw09.MatchParts', WHERE WHAT IT READS IS OF BULK AT MOST 1048576: true; the input reads as it did. -/
def matchPartsUptoRow : OpenClaim := { program := "ytfejjfbhlmjkeaadoor", sum := "412efd048e8811baae12a510bd5d5f6128abc429faa9718f21fa4a62eac58109", func := "magpie/magpielaw09.MatchParts", spec := "matchParts", inPlace := ["internal/bytealg.IndexByteString", "internal/bytealg.IndexString", "internal/bytealg.CountString"], unfollowed := true, recurses := true, named := ["internal/bytealg.MaxLen", "unicode/utf8.first", "unicode/utf8.acceptRanges"], apart := false, laid := [("unicode/utf8.acceptRanges", laid_unicode_utf8_acceptRanges), ("unicode/utf8.first", laid_unicode_utf8_first)], narrowed := true }
def MatchPartsUptoSaid : Prop := matchPartsUptoRow.holds Tryd.pinned (OpenSpec.upto matchPartsSpec)

/-- 'magpielaw11.ModelRows', WHERE WHAT IT READS IS OF BULK AT MOST 1048576: true; the input reads as it did. -/
def modelRowsUptoRow : OpenClaim := { program := "ytfejjfbhlmjkeaadoor", sum := "412efd048e8811baae12a510bd5d5f6128abc429faa9718f21fa4a62eac58109", func := "magpie/magpielaw11.ModelRows", spec := "modelRows", inPlace := ["internal/bytealg.IndexByteString", "internal/bytealg.IndexString", "internal/bytealg.CountString"], unfollowed := true, recurses := true, named := ["internal/bytealg.MaxLen", "unicode/utf8.first", "unicode/utf8.acceptRanges"], apart := false, laid := [("unicode/utf8.acceptRanges", laid_unicode_utf8_acceptRanges), ("unicode/utf8.first", laid_unicode_utf8_first)], narrowed := true }
def ModelRowsUptoSaid : Prop := modelRowsUptoRow.holds Tryd.pinned (OpenSpec.upto modelRowsSpec)

/-- 'magpielaw11.ModelMore', WHERE WHAT IT READS IS OF BULK AT MOST 1048576: true; the input reads as it did. -/
def modelMoreUptoRow : OpenClaim := { program := "ytfejjfbhlmjkeaadoor", sum := "412efd048e8811baae12a510bd5d5f6128abc429faa9718f21fa4a62eac58109", func := "magpie/magpielaw11.ModelMore", spec := "modelMore", inPlace := ["internal/bytealg.IndexByteString", "internal/bytealg.IndexString", "internal/bytealg.CountString"], unfollowed := true, recurses := true, named := ["internal/bytealg.MaxLen", "unicode/utf8.first", "unicode/utf8.acceptRanges"], apart := false, laid := [("unicode/utf8.acceptRanges", laid_unicode_utf8_acceptRanges), ("unicode/utf8.first", laid_unicode_utf8_first)], narrowed := true }
def ModelMoreUptoSaid : Prop := modelMoreUptoRow.holds Tryd.pinned (OpenSpec.upto modelMoreSpec)

end Rows
end Go.Proofs.YtfejjfbhlmjkeaaDoor
