/-
  NARROWER THAN 'FOR EVERY INPUT', by the rows' own cells (each row's printed sentence says how): StateFetches: laid · StateAgain: laid · StateEnds: loops, laid · StateFilter: loops, laid · StateApart: loops, laid · StateScripts: loops, laid · StateNil: loops, laid.
  DERIVED. THE GIVEN ROWS OF THIS SEAT. 7 by the template 'for every input the law returns true; each argument reads behind the call as it read before'; 0 by the template 'total and deterministic' (their statements: YtfdhofabgdkkkaaGreatDoorTotals.lean).
  GIVEN WITH THE SEED: the statements are not yours to turn. If you find one false, say at which input.
  Laid BY PROGRAM, IN A SANDBOX (cutbox-rows.mjs): the forced cells as the released guide's own fill.sh prints them over the translation 7f8f67739df994df… (all of the seat's roots in one cut). By AI agents, Wed Nov 11 2026. No macro, syntax, notation, axiom, sorry.
-/
import Derived.Test.YtfdhofabgdkkkaaGreatDoorChecked
import GoSem.PinnedTables
import GoSem.Claim
import GoSem.ClaimJoined
import GoSem.ClaimMapViews
import Derived.JoinedTies
import Derived.KernelRfl
namespace Go.Proofs.YtfdhofabgdkkkaaGreatDoor
/- THE CELL 'sum', in the pinned program and in every row, IS THE sha256 OF THE DUMP (.gsa) THAT YtfdhofabgdkkkaaGreatDoorProg.lean LOADS. Nothing in Lean hashes anything: it is a label: what it is worth is what the hold of that sum in a sandbox is worth. -/
noncomputable def Tryz.pinned : Pinned := { name := "ytfdhofabgdkkkaagreatdoor", sum := "7f8f67739df994dfe0dedf93040f11eab77efb627ec46349770281f5785a1e72", checked := Tryz.checked }
namespace Rows
def none {H : Type} : Left H := { results := [], args := [] }

/- WHAT THE LISTED PACKAGE-LEVEL VARIABLES READ AS WHEN THE CALL BEGINS. Each datum BY PROGRAM (the guide's laid-datum.mjs) off the statement by which the dump's own 'gosem.cut.vars' lays the variable. In a bare row this is a premise. The card (YtfdhofabgdkkkaaGreatDoorCards.lean) ties it to the program's text. -/
def laid_flotsam_crcc_steps {H : Type} : DataW H := .agg [.lit (.int .u32 0), .lit (.int .u32 274646895), .lit (.int .u32 549293790), .lit (.int .u32 820201905), .lit (.int .u32 1098587580), .lit (.int .u32 1361435347), .lit (.int .u32 1640403810), .lit (.int .u32 1905808397), .lit (.int .u32 2197175160), .lit (.int .u32 2460548119), .lit (.int .u32 2722870694), .lit (.int .u32 2987750089), .lit (.int .u32 3280807620), .lit (.int .u32 3553878443), .lit (.int .u32 3811616794), .lit (.int .u32 4084100981)]
def laid_unicode_utf8_acceptRanges {H : Type} : DataW H := .agg [.agg [.lit (.int .u8 128), .lit (.int .u8 191)], .agg [.lit (.int .u8 160), .lit (.int .u8 191)], .agg [.lit (.int .u8 128), .lit (.int .u8 159)], .agg [.lit (.int .u8 144), .lit (.int .u8 191)], .agg [.lit (.int .u8 128), .lit (.int .u8 143)], .agg [.lit (.int .u8 0), .lit (.int .u8 0)], .agg [.lit (.int .u8 0), .lit (.int .u8 0)], .agg [.lit (.int .u8 0), .lit (.int .u8 0)], .agg [.lit (.int .u8 0), .lit (.int .u8 0)], .agg [.lit (.int .u8 0), .lit (.int .u8 0)], .agg [.lit (.int .u8 0), .lit (.int .u8 0)], .agg [.lit (.int .u8 0), .lit (.int .u8 0)], .agg [.lit (.int .u8 0), .lit (.int .u8 0)], .agg [.lit (.int .u8 0), .lit (.int .u8 0)], .agg [.lit (.int .u8 0), .lit (.int .u8 0)], .agg [.lit (.int .u8 0), .lit (.int .u8 0)]]
/-- One of Go's own tables, pinned by name: the form's constant. -/
def laid_unicode_utf8_first : DataW Unit := Go.Pinned.utf8First

/-- 'flotsamlaw20.StateFetches': WHATEVER THE INPUT: true; the input reads as it did. -/
def stateFetchesSpec : ChangeSpec := { name := "stateFetches", fn := fun _ => fun
  | [d] => { results := [.lit (.bool true)], args := [d] }
  | _ => none }
def stateFetchesRow : OpenClaim := { program := "ytfdhofabgdkkkaagreatdoor", sum := "7f8f67739df994dfe0dedf93040f11eab77efb627ec46349770281f5785a1e72", func := "flotsam/flotsamlaw20.StateFetches", spec := "stateFetches", inPlace := ["internal/abi.NoEscape"], unfollowed := true, recurses := true, named := ["flotsam/crcc.steps", "unicode/utf8.first", "unicode/utf8.acceptRanges"], plainKeys := false, apart := false, laid := [("flotsam/crcc.steps", laid_flotsam_crcc_steps), ("unicode/utf8.acceptRanges", laid_unicode_utf8_acceptRanges), ("unicode/utf8.first", laid_unicode_utf8_first)] }
def StateFetchesSaid : Prop := stateFetchesRow.holds Tryz.pinned (OpenSpec.ofChange stateFetchesSpec)

/-- ITS FALSE NEIGHBOUR: 'it returns false'. Refute it at one input. -/
def stateFetchesWrong : ChangeSpec := { name := "stateFetches", fn := fun _ => fun
  | [d] => { results := [.lit (.bool false)], args := [d] }
  | _ => none }
def StateFetchesWrongFalsely : Prop := stateFetchesRow.holds Tryz.pinned (OpenSpec.ofChange stateFetchesWrong)

/-- 'flotsamlaw20.StateAgain': WHATEVER THE INPUT: true; the input reads as it did. -/
def stateAgainSpec : ChangeSpec := { name := "stateAgain", fn := fun _ => fun
  | [d] => { results := [.lit (.bool true)], args := [d] }
  | _ => none }
def stateAgainRow : OpenClaim := { program := "ytfdhofabgdkkkaagreatdoor", sum := "7f8f67739df994dfe0dedf93040f11eab77efb627ec46349770281f5785a1e72", func := "flotsam/flotsamlaw20.StateAgain", spec := "stateAgain", inPlace := ["internal/abi.NoEscape"], unfollowed := true, recurses := true, named := ["flotsam/crcc.steps", "unicode/utf8.first", "unicode/utf8.acceptRanges"], plainKeys := false, apart := false, laid := [("flotsam/crcc.steps", laid_flotsam_crcc_steps), ("unicode/utf8.acceptRanges", laid_unicode_utf8_acceptRanges), ("unicode/utf8.first", laid_unicode_utf8_first)] }
def StateAgainSaid : Prop := stateAgainRow.holds Tryz.pinned (OpenSpec.ofChange stateAgainSpec)

/-- ITS FALSE NEIGHBOUR: 'it returns false'. Refute it at one input. -/
def stateAgainWrong : ChangeSpec := { name := "stateAgain", fn := fun _ => fun
  | [d] => { results := [.lit (.bool false)], args := [d] }
  | _ => none }
def StateAgainWrongFalsely : Prop := stateAgainRow.holds Tryz.pinned (OpenSpec.ofChange stateAgainWrong)

/-- 'flotsamlaw20.StateEnds': WHATEVER THE INPUT: true; the input reads as it did. -/
def stateEndsSpec : ChangeSpec := { name := "stateEnds", fn := fun _ => fun
  | [d1, d2] => { results := [.lit (.bool true)], args := [d1, d2] }
  | _ => none }
def stateEndsRow : OpenClaim := { program := "ytfdhofabgdkkkaagreatdoor", sum := "7f8f67739df994dfe0dedf93040f11eab77efb627ec46349770281f5785a1e72", func := "flotsam/flotsamlaw20.StateEnds", spec := "stateEnds", inPlace := ["internal/abi.NoEscape"], unfollowed := true, recurses := true, named := ["flotsam/crcc.steps", "unicode/utf8.first", "unicode/utf8.acceptRanges"], loops := true, plainKeys := false, apart := false, laid := [("flotsam/crcc.steps", laid_flotsam_crcc_steps), ("unicode/utf8.acceptRanges", laid_unicode_utf8_acceptRanges), ("unicode/utf8.first", laid_unicode_utf8_first)] }
def StateEndsSaid : Prop := stateEndsRow.holds Tryz.pinned (OpenSpec.ofChange stateEndsSpec)

/-- ITS FALSE NEIGHBOUR: 'it returns false'. Refute it at one input. -/
def stateEndsWrong : ChangeSpec := { name := "stateEnds", fn := fun _ => fun
  | [d1, d2] => { results := [.lit (.bool false)], args := [d1, d2] }
  | _ => none }
def StateEndsWrongFalsely : Prop := stateEndsRow.holds Tryz.pinned (OpenSpec.ofChange stateEndsWrong)

/-- 'flotsamlaw20.StateFilter': WHATEVER THE INPUT: true; the input reads as it did. -/
def stateFilterSpec : ChangeSpec := { name := "stateFilter", fn := fun _ => fun
  | [d1, d2] => { results := [.lit (.bool true)], args := [d1, d2] }
  | _ => none }
def stateFilterRow : OpenClaim := { program := "ytfdhofabgdkkkaagreatdoor", sum := "7f8f67739df994dfe0dedf93040f11eab77efb627ec46349770281f5785a1e72", func := "flotsam/flotsamlaw20.StateFilter", spec := "stateFilter", inPlace := ["internal/abi.NoEscape"], unfollowed := true, recurses := true, named := ["flotsam/crcc.steps", "unicode/utf8.first", "unicode/utf8.acceptRanges"], loops := true, plainKeys := false, apart := false, laid := [("flotsam/crcc.steps", laid_flotsam_crcc_steps), ("unicode/utf8.acceptRanges", laid_unicode_utf8_acceptRanges), ("unicode/utf8.first", laid_unicode_utf8_first)] }
def StateFilterSaid : Prop := stateFilterRow.holds Tryz.pinned (OpenSpec.ofChange stateFilterSpec)

/-- ITS FALSE NEIGHBOUR: 'it returns false'. Refute it at one input. -/
def stateFilterWrong : ChangeSpec := { name := "stateFilter", fn := fun _ => fun
  | [d1, d2] => { results := [.lit (.bool false)], args := [d1, d2] }
  | _ => none }
def StateFilterWrongFalsely : Prop := stateFilterRow.holds Tryz.pinned (OpenSpec.ofChange stateFilterWrong)

/-- 'flotsamlaw20.StateApart': WHATEVER THE INPUT: true; the input reads as it did. -/
def stateApartSpec : ChangeSpec := { name := "stateApart", fn := fun _ => fun
  | [d] => { results := [.lit (.bool true)], args := [d] }
  | _ => none }
def stateApartRow : OpenClaim := { program := "ytfdhofabgdkkkaagreatdoor", sum := "7f8f67739df994dfe0dedf93040f11eab77efb627ec46349770281f5785a1e72", func := "flotsam/flotsamlaw20.StateApart", spec := "stateApart", inPlace := ["internal/abi.NoEscape"], unfollowed := true, recurses := true, named := ["flotsam/crcc.steps", "unicode/utf8.first", "unicode/utf8.acceptRanges"], loops := true, plainKeys := false, apart := false, laid := [("flotsam/crcc.steps", laid_flotsam_crcc_steps), ("unicode/utf8.acceptRanges", laid_unicode_utf8_acceptRanges), ("unicode/utf8.first", laid_unicode_utf8_first)] }
def StateApartSaid : Prop := stateApartRow.holds Tryz.pinned (OpenSpec.ofChange stateApartSpec)

/-- ITS FALSE NEIGHBOUR: 'it returns false'. Refute it at one input. -/
def stateApartWrong : ChangeSpec := { name := "stateApart", fn := fun _ => fun
  | [d] => { results := [.lit (.bool false)], args := [d] }
  | _ => none }
def StateApartWrongFalsely : Prop := stateApartRow.holds Tryz.pinned (OpenSpec.ofChange stateApartWrong)

/-- 'flotsamlaw20.StateScripts': WHATEVER THE INPUT: true; the input reads as it did. -/
def stateScriptsSpec : ChangeSpec := { name := "stateScripts", fn := fun _ => fun
  | [d1, d2, d3] => { results := [.lit (.bool true)], args := [d1, d2, d3] }
  | _ => none }
def stateScriptsRow : OpenClaim := { program := "ytfdhofabgdkkkaagreatdoor", sum := "7f8f67739df994dfe0dedf93040f11eab77efb627ec46349770281f5785a1e72", func := "flotsam/flotsamlaw20.StateScripts", spec := "stateScripts", inPlace := ["internal/abi.NoEscape"], unfollowed := true, recurses := true, named := ["flotsam/crcc.steps", "unicode/utf8.first", "unicode/utf8.acceptRanges"], loops := true, plainKeys := false, apart := false, laid := [("flotsam/crcc.steps", laid_flotsam_crcc_steps), ("unicode/utf8.acceptRanges", laid_unicode_utf8_acceptRanges), ("unicode/utf8.first", laid_unicode_utf8_first)] }
def StateScriptsSaid : Prop := stateScriptsRow.holds Tryz.pinned (OpenSpec.ofChange stateScriptsSpec)

/-- ITS FALSE NEIGHBOUR: 'it returns false'. Refute it at one input. -/
def stateScriptsWrong : ChangeSpec := { name := "stateScripts", fn := fun _ => fun
  | [d1, d2, d3] => { results := [.lit (.bool false)], args := [d1, d2, d3] }
  | _ => none }
def StateScriptsWrongFalsely : Prop := stateScriptsRow.holds Tryz.pinned (OpenSpec.ofChange stateScriptsWrong)

/-- 'flotsamlaw20.StateNil': WHATEVER THE INPUT: true; the input reads as it did. -/
def stateNilSpec : ChangeSpec := { name := "stateNil", fn := fun _ => fun
  | [d] => { results := [.lit (.bool true)], args := [d] }
  | _ => none }
def stateNilRow : OpenClaim := { program := "ytfdhofabgdkkkaagreatdoor", sum := "7f8f67739df994dfe0dedf93040f11eab77efb627ec46349770281f5785a1e72", func := "flotsam/flotsamlaw20.StateNil", spec := "stateNil", inPlace := ["internal/abi.NoEscape"], unfollowed := true, recurses := true, named := ["flotsam/crcc.steps", "unicode/utf8.first", "unicode/utf8.acceptRanges"], loops := true, plainKeys := false, apart := false, laid := [("flotsam/crcc.steps", laid_flotsam_crcc_steps), ("unicode/utf8.acceptRanges", laid_unicode_utf8_acceptRanges), ("unicode/utf8.first", laid_unicode_utf8_first)] }
def StateNilSaid : Prop := stateNilRow.holds Tryz.pinned (OpenSpec.ofChange stateNilSpec)

/-- ITS FALSE NEIGHBOUR: 'it returns false'. Refute it at one input. -/
def stateNilWrong : ChangeSpec := { name := "stateNil", fn := fun _ => fun
  | [d] => { results := [.lit (.bool false)], args := [d] }
  | _ => none }
def StateNilWrongFalsely : Prop := stateNilRow.holds Tryz.pinned (OpenSpec.ofChange stateNilWrong)

/- THE SECOND FORM. 'bulk': how many values and letters a reading holds, each counted each time it is reached (what is shared counts as often as it is met; a slice's spare places count too). A statement '..UptoSaid' is the law's where the arguments, and the package variables that the reading takes, are together of bulk at most 1048576: NARROWER than '..Said'. Prove '..Said' where nothing that the law and all that it calls make is longer than what came in: it says more and counts as full. Else prove '..UptoSaid'. A law counts once. -/
mutual
def uptoBulk {H : Type} : DataW H → Nat
  | .lit (.string bytes) => bytes.length + 1
  | .lit _ => 1
  | .nil => 1
  | .ptr d => uptoBulk d + 1
  | .slice elems spare => uptoBulkAll elems + uptoBulkAll spare + 1
  | .agg parts => uptoBulkAll parts + 1
  | .iface _ d => uptoBulk d + 1
  | .map entries => uptoBulkEntries entries + 1
  | .held _ => 1
def uptoBulkAll {H : Type} : List (DataW H) → Nat
  | [] => 0
  | d :: r => uptoBulk d + uptoBulkAll r
def uptoBulkEntries {H : Type} : List (Lit × DataW H) → Nat
  | [] => 0
  | x :: r => uptoBulkEntry x + uptoBulkEntries r
def uptoBulkEntry {H : Type} : Lit × DataW H → Nat
  | (.string bytes, d) => bytes.length + uptoBulk d + 1
  | (_, d) => uptoBulk d + 1
 end
def uptoSmall : (H : Type) → List (DataW H) → Bool := fun _ ds => decide (uptoBulkAll ds ≤ 1048576)
def OpenSpec.upto (s : _root_.Go.ChangeSpec) : _root_.Go.OpenSpec := { _root_.Go.OpenSpec.ofChange s with cond := some uptoSmall }

/-- 'flotsamlaw20.StateFetches', WHERE WHAT IT READS IS OF BULK AT MOST 1048576: true; the input reads as it did. -/
def stateFetchesUptoRow : OpenClaim := { program := "ytfdhofabgdkkkaagreatdoor", sum := "7f8f67739df994dfe0dedf93040f11eab77efb627ec46349770281f5785a1e72", func := "flotsam/flotsamlaw20.StateFetches", spec := "stateFetches", inPlace := ["internal/abi.NoEscape"], unfollowed := true, recurses := true, named := ["flotsam/crcc.steps", "unicode/utf8.first", "unicode/utf8.acceptRanges"], plainKeys := false, apart := false, laid := [("flotsam/crcc.steps", laid_flotsam_crcc_steps), ("unicode/utf8.acceptRanges", laid_unicode_utf8_acceptRanges), ("unicode/utf8.first", laid_unicode_utf8_first)], narrowed := true }
def StateFetchesUptoSaid : Prop := stateFetchesUptoRow.holds Tryz.pinned (OpenSpec.upto stateFetchesSpec)

/-- 'flotsamlaw20.StateAgain', WHERE WHAT IT READS IS OF BULK AT MOST 1048576: true; the input reads as it did. -/
def stateAgainUptoRow : OpenClaim := { program := "ytfdhofabgdkkkaagreatdoor", sum := "7f8f67739df994dfe0dedf93040f11eab77efb627ec46349770281f5785a1e72", func := "flotsam/flotsamlaw20.StateAgain", spec := "stateAgain", inPlace := ["internal/abi.NoEscape"], unfollowed := true, recurses := true, named := ["flotsam/crcc.steps", "unicode/utf8.first", "unicode/utf8.acceptRanges"], plainKeys := false, apart := false, laid := [("flotsam/crcc.steps", laid_flotsam_crcc_steps), ("unicode/utf8.acceptRanges", laid_unicode_utf8_acceptRanges), ("unicode/utf8.first", laid_unicode_utf8_first)], narrowed := true }
def StateAgainUptoSaid : Prop := stateAgainUptoRow.holds Tryz.pinned (OpenSpec.upto stateAgainSpec)

/-- 'flotsamlaw20.StateEnds', WHERE WHAT IT READS IS OF BULK AT MOST 1048576: true; the input reads as it did. -/
def stateEndsUptoRow : OpenClaim := { program := "ytfdhofabgdkkkaagreatdoor", sum := "7f8f67739df994dfe0dedf93040f11eab77efb627ec46349770281f5785a1e72", func := "flotsam/flotsamlaw20.StateEnds", spec := "stateEnds", inPlace := ["internal/abi.NoEscape"], unfollowed := true, recurses := true, named := ["flotsam/crcc.steps", "unicode/utf8.first", "unicode/utf8.acceptRanges"], loops := true, plainKeys := false, apart := false, laid := [("flotsam/crcc.steps", laid_flotsam_crcc_steps), ("unicode/utf8.acceptRanges", laid_unicode_utf8_acceptRanges), ("unicode/utf8.first", laid_unicode_utf8_first)], narrowed := true }
def StateEndsUptoSaid : Prop := stateEndsUptoRow.holds Tryz.pinned (OpenSpec.upto stateEndsSpec)

/-- 'flotsamlaw20.StateFilter', WHERE WHAT IT READS IS OF BULK AT MOST 1048576: true; the input reads as it did. -/
def stateFilterUptoRow : OpenClaim := { program := "ytfdhofabgdkkkaagreatdoor", sum := "7f8f67739df994dfe0dedf93040f11eab77efb627ec46349770281f5785a1e72", func := "flotsam/flotsamlaw20.StateFilter", spec := "stateFilter", inPlace := ["internal/abi.NoEscape"], unfollowed := true, recurses := true, named := ["flotsam/crcc.steps", "unicode/utf8.first", "unicode/utf8.acceptRanges"], loops := true, plainKeys := false, apart := false, laid := [("flotsam/crcc.steps", laid_flotsam_crcc_steps), ("unicode/utf8.acceptRanges", laid_unicode_utf8_acceptRanges), ("unicode/utf8.first", laid_unicode_utf8_first)], narrowed := true }
def StateFilterUptoSaid : Prop := stateFilterUptoRow.holds Tryz.pinned (OpenSpec.upto stateFilterSpec)

/-- 'flotsamlaw20.StateApart', WHERE WHAT IT READS IS OF BULK AT MOST 1048576: true; the input reads as it did. -/
def stateApartUptoRow : OpenClaim := { program := "ytfdhofabgdkkkaagreatdoor", sum := "7f8f67739df994dfe0dedf93040f11eab77efb627ec46349770281f5785a1e72", func := "flotsam/flotsamlaw20.StateApart", spec := "stateApart", inPlace := ["internal/abi.NoEscape"], unfollowed := true, recurses := true, named := ["flotsam/crcc.steps", "unicode/utf8.first", "unicode/utf8.acceptRanges"], loops := true, plainKeys := false, apart := false, laid := [("flotsam/crcc.steps", laid_flotsam_crcc_steps), ("unicode/utf8.acceptRanges", laid_unicode_utf8_acceptRanges), ("unicode/utf8.first", laid_unicode_utf8_first)], narrowed := true }
def StateApartUptoSaid : Prop := stateApartUptoRow.holds Tryz.pinned (OpenSpec.upto stateApartSpec)

/-- 'flotsamlaw20.StateScripts', WHERE WHAT IT READS IS OF BULK AT MOST 1048576: true; the input reads as it did. -/
def stateScriptsUptoRow : OpenClaim := { program := "ytfdhofabgdkkkaagreatdoor", sum := "7f8f67739df994dfe0dedf93040f11eab77efb627ec46349770281f5785a1e72", func := "flotsam/flotsamlaw20.StateScripts", spec := "stateScripts", inPlace := ["internal/abi.NoEscape"], unfollowed := true, recurses := true, named := ["flotsam/crcc.steps", "unicode/utf8.first", "unicode/utf8.acceptRanges"], loops := true, plainKeys := false, apart := false, laid := [("flotsam/crcc.steps", laid_flotsam_crcc_steps), ("unicode/utf8.acceptRanges", laid_unicode_utf8_acceptRanges), ("unicode/utf8.first", laid_unicode_utf8_first)], narrowed := true }
def StateScriptsUptoSaid : Prop := stateScriptsUptoRow.holds Tryz.pinned (OpenSpec.upto stateScriptsSpec)

/-- 'flotsamlaw20.StateNil', WHERE WHAT IT READS IS OF BULK AT MOST 1048576: true; the input reads as it did. -/
def stateNilUptoRow : OpenClaim := { program := "ytfdhofabgdkkkaagreatdoor", sum := "7f8f67739df994dfe0dedf93040f11eab77efb627ec46349770281f5785a1e72", func := "flotsam/flotsamlaw20.StateNil", spec := "stateNil", inPlace := ["internal/abi.NoEscape"], unfollowed := true, recurses := true, named := ["flotsam/crcc.steps", "unicode/utf8.first", "unicode/utf8.acceptRanges"], loops := true, plainKeys := false, apart := false, laid := [("flotsam/crcc.steps", laid_flotsam_crcc_steps), ("unicode/utf8.acceptRanges", laid_unicode_utf8_acceptRanges), ("unicode/utf8.first", laid_unicode_utf8_first)], narrowed := true }
def StateNilUptoSaid : Prop := stateNilUptoRow.holds Tryz.pinned (OpenSpec.upto stateNilSpec)

end Rows
end Go.Proofs.YtfdhofabgdkkkaaGreatDoor
