/-
  NARROWER THAN 'FOR EVERY INPUT', by the rows' own cells (each row's printed sentence says how): PlogRetains: laid · PlogBegins: laid · PlogSafe: laid · PlogSame: laid · CleanSteps: laid · CleanSafe: laid.
  DERIVED. THE GIVEN ROWS OF THIS SEAT. 6 by the template 'for every input the law returns true; each argument reads behind the call as it read before'; 0 by the template 'total and deterministic' (their statements: YtdlnafhhkpklmaaGreatDoorTotals.lean).
  GIVEN WITH THE SEED: the statements are not yours to turn. If you find one false, say at which input.
  Laid BY PROGRAM, IN A SANDBOX (cutbox-rows.mjs): the forced cells as the released guide's own fill.sh prints them over the translation 5f1a5c7e9d0df041… (all of the seat's roots in one cut). By AI agents, Wed Nov 11 2026. No macro, syntax, notation, axiom, sorry.
-/
import Derived.Test.YtdlnafhhkpklmaaGreatDoorChecked
import GoSem.Claim
import GoSem.ClaimJoined
import GoSem.ClaimMapViews
import Derived.JoinedTies
import Derived.KernelRfl
namespace Go.Proofs.YtdlnafhhkpklmaaGreatDoor
/- THE CELL 'sum', in the pinned program and in every row, IS THE sha256 OF THE DUMP (.gsa) THAT YtdlnafhhkpklmaaGreatDoorProg.lean LOADS. Nothing in Lean hashes anything: it is a label: what it is worth is what the hold of that sum in a sandbox is worth. -/
noncomputable def Tryz.pinned : Pinned := { name := "ytdlnafhhkpklmaagreatdoor", sum := "5f1a5c7e9d0df0411ca6c8405443f61a2dbeae0c468c8764e2390dd64091aa36", checked := Tryz.checked }
namespace Rows
def none {H : Type} : Left H := { results := [], args := [] }

/- WHAT THE LISTED PACKAGE-LEVEL VARIABLES READ AS WHEN THE CALL BEGINS. Each datum BY PROGRAM (the guide's laid-datum.mjs) off the statement by which the dump's own 'gosem.cut.vars' lays the variable. In a bare row this is a premise. The card (YtdlnafhhkpklmaaGreatDoorCards.lean) ties it to the program's text. -/
def laid_flotsam_crcc_steps {H : Type} : DataW H := .agg [.lit (.int .u32 0), .lit (.int .u32 274646895), .lit (.int .u32 549293790), .lit (.int .u32 820201905), .lit (.int .u32 1098587580), .lit (.int .u32 1361435347), .lit (.int .u32 1640403810), .lit (.int .u32 1905808397), .lit (.int .u32 2197175160), .lit (.int .u32 2460548119), .lit (.int .u32 2722870694), .lit (.int .u32 2987750089), .lit (.int .u32 3280807620), .lit (.int .u32 3553878443), .lit (.int .u32 3811616794), .lit (.int .u32 4084100981)]

/-- 'flotsamlaw11.PlogRetains': WHATEVER THE INPUT: true; the input reads as it did. -/
def plogRetainsSpec : ChangeSpec := { name := "plogRetains", fn := fun _ => fun
  | [d1, d2] => { results := [.lit (.bool true)], args := [d1, d2] }
  | _ => none }
def plogRetainsRow : OpenClaim := { program := "ytdlnafhhkpklmaagreatdoor", sum := "5f1a5c7e9d0df0411ca6c8405443f61a2dbeae0c468c8764e2390dd64091aa36", func := "flotsam/flotsamlaw11.PlogRetains", spec := "plogRetains", inPlace := ["internal/abi.NoEscape"], unfollowed := true, recurses := true, named := ["flotsam/crcc.steps"], apart := false, laid := [("flotsam/crcc.steps", laid_flotsam_crcc_steps)] }
def PlogRetainsSaid : Prop := plogRetainsRow.holds Tryz.pinned (OpenSpec.ofChange plogRetainsSpec)

/-- ITS FALSE NEIGHBOUR: 'it returns false'. Refute it at one input. -/
def plogRetainsWrong : ChangeSpec := { name := "plogRetains", fn := fun _ => fun
  | [d1, d2] => { results := [.lit (.bool false)], args := [d1, d2] }
  | _ => none }
def PlogRetainsWrongFalsely : Prop := plogRetainsRow.holds Tryz.pinned (OpenSpec.ofChange plogRetainsWrong)

/-- 'flotsamlaw11.PlogBegins': WHATEVER THE INPUT: true; the input reads as it did. -/
def plogBeginsSpec : ChangeSpec := { name := "plogBegins", fn := fun _ => fun
  | [d1, d2] => { results := [.lit (.bool true)], args := [d1, d2] }
  | _ => none }
def plogBeginsRow : OpenClaim := { program := "ytdlnafhhkpklmaagreatdoor", sum := "5f1a5c7e9d0df0411ca6c8405443f61a2dbeae0c468c8764e2390dd64091aa36", func := "flotsam/flotsamlaw11.PlogBegins", spec := "plogBegins", inPlace := ["internal/abi.NoEscape"], unfollowed := true, recurses := true, named := ["flotsam/crcc.steps"], apart := false, laid := [("flotsam/crcc.steps", laid_flotsam_crcc_steps)] }
def PlogBeginsSaid : Prop := plogBeginsRow.holds Tryz.pinned (OpenSpec.ofChange plogBeginsSpec)

/-- ITS FALSE NEIGHBOUR: 'it returns false'. Refute it at one input. -/
def plogBeginsWrong : ChangeSpec := { name := "plogBegins", fn := fun _ => fun
  | [d1, d2] => { results := [.lit (.bool false)], args := [d1, d2] }
  | _ => none }
def PlogBeginsWrongFalsely : Prop := plogBeginsRow.holds Tryz.pinned (OpenSpec.ofChange plogBeginsWrong)

/-- 'flotsamlaw11.PlogSafe': WHATEVER THE INPUT: true; the input reads as it did. -/
def plogSafeSpec : ChangeSpec := { name := "plogSafe", fn := fun _ => fun
  | [d] => { results := [.lit (.bool true)], args := [d] }
  | _ => none }
def plogSafeRow : OpenClaim := { program := "ytdlnafhhkpklmaagreatdoor", sum := "5f1a5c7e9d0df0411ca6c8405443f61a2dbeae0c468c8764e2390dd64091aa36", func := "flotsam/flotsamlaw11.PlogSafe", spec := "plogSafe", inPlace := ["internal/abi.NoEscape"], unfollowed := true, recurses := true, named := ["flotsam/crcc.steps"], apart := false, laid := [("flotsam/crcc.steps", laid_flotsam_crcc_steps)] }
def PlogSafeSaid : Prop := plogSafeRow.holds Tryz.pinned (OpenSpec.ofChange plogSafeSpec)

/-- ITS FALSE NEIGHBOUR: 'it returns false'. Refute it at one input. -/
def plogSafeWrong : ChangeSpec := { name := "plogSafe", fn := fun _ => fun
  | [d] => { results := [.lit (.bool false)], args := [d] }
  | _ => none }
def PlogSafeWrongFalsely : Prop := plogSafeRow.holds Tryz.pinned (OpenSpec.ofChange plogSafeWrong)

/-- 'flotsamlaw11.PlogSame': WHATEVER THE INPUT: true; the input reads as it did. -/
def plogSameSpec : ChangeSpec := { name := "plogSame", fn := fun _ => fun
  | [d] => { results := [.lit (.bool true)], args := [d] }
  | _ => none }
def plogSameRow : OpenClaim := { program := "ytdlnafhhkpklmaagreatdoor", sum := "5f1a5c7e9d0df0411ca6c8405443f61a2dbeae0c468c8764e2390dd64091aa36", func := "flotsam/flotsamlaw11.PlogSame", spec := "plogSame", inPlace := ["internal/abi.NoEscape"], unfollowed := true, recurses := true, named := ["flotsam/crcc.steps"], apart := false, laid := [("flotsam/crcc.steps", laid_flotsam_crcc_steps)] }
def PlogSameSaid : Prop := plogSameRow.holds Tryz.pinned (OpenSpec.ofChange plogSameSpec)

/-- ITS FALSE NEIGHBOUR: 'it returns false'. Refute it at one input. -/
def plogSameWrong : ChangeSpec := { name := "plogSame", fn := fun _ => fun
  | [d] => { results := [.lit (.bool false)], args := [d] }
  | _ => none }
def PlogSameWrongFalsely : Prop := plogSameRow.holds Tryz.pinned (OpenSpec.ofChange plogSameWrong)

/-- 'flotsamlaw12.CleanSteps': WHATEVER THE INPUT: true; the input reads as it did. -/
def cleanStepsSpec : ChangeSpec := { name := "cleanSteps", fn := fun _ => fun
  | [d] => { results := [.lit (.bool true)], args := [d] }
  | _ => none }
def cleanStepsRow : OpenClaim := { program := "ytdlnafhhkpklmaagreatdoor", sum := "5f1a5c7e9d0df0411ca6c8405443f61a2dbeae0c468c8764e2390dd64091aa36", func := "flotsam/flotsamlaw12.CleanSteps", spec := "cleanSteps", inPlace := ["internal/abi.NoEscape"], unfollowed := true, recurses := true, named := ["flotsam/crcc.steps"], apart := false, laid := [("flotsam/crcc.steps", laid_flotsam_crcc_steps)] }
def CleanStepsSaid : Prop := cleanStepsRow.holds Tryz.pinned (OpenSpec.ofChange cleanStepsSpec)

/-- ITS FALSE NEIGHBOUR: 'it returns false'. Refute it at one input. -/
def cleanStepsWrong : ChangeSpec := { name := "cleanSteps", fn := fun _ => fun
  | [d] => { results := [.lit (.bool false)], args := [d] }
  | _ => none }
def CleanStepsWrongFalsely : Prop := cleanStepsRow.holds Tryz.pinned (OpenSpec.ofChange cleanStepsWrong)

/-- 'flotsamlaw12.CleanSafe': WHATEVER THE INPUT: true; the input reads as it did. -/
def cleanSafeSpec : ChangeSpec := { name := "cleanSafe", fn := fun _ => fun
  | [d1, d2] => { results := [.lit (.bool true)], args := [d1, d2] }
  | _ => none }
def cleanSafeRow : OpenClaim := { program := "ytdlnafhhkpklmaagreatdoor", sum := "5f1a5c7e9d0df0411ca6c8405443f61a2dbeae0c468c8764e2390dd64091aa36", func := "flotsam/flotsamlaw12.CleanSafe", spec := "cleanSafe", inPlace := ["internal/abi.NoEscape"], unfollowed := true, recurses := true, named := ["flotsam/crcc.steps"], apart := false, laid := [("flotsam/crcc.steps", laid_flotsam_crcc_steps)] }
def CleanSafeSaid : Prop := cleanSafeRow.holds Tryz.pinned (OpenSpec.ofChange cleanSafeSpec)

/-- ITS FALSE NEIGHBOUR: 'it returns false'. Refute it at one input. -/
def cleanSafeWrong : ChangeSpec := { name := "cleanSafe", fn := fun _ => fun
  | [d1, d2] => { results := [.lit (.bool false)], args := [d1, d2] }
  | _ => none }
def CleanSafeWrongFalsely : Prop := cleanSafeRow.holds Tryz.pinned (OpenSpec.ofChange cleanSafeWrong)

/- THE SECOND FORM. 'bulk': how many values and letters a reading holds, each counted each time it is reached (what is shared counts as often as it is met; a slice's spare places count too). A statement '..UptoSaid' is the law's where the arguments, and the package variables that the reading takes, are together of bulk at most 1048576: NARROWER than '..Said'. Prove '..Said' where nothing that the law and all that it calls make is longer than what came in: it says more and counts as full. Else prove '..UptoSaid'. A law counts once. -/
mutual
def uptoBulk {H : Type} : DataW H → Nat
  | .lit (.string bytes) => bytes.length + 1
  | .lit _ => 1
  | .nil => 1
  | .ptr d => uptoBulk d + 1
  | .slice elems spare => uptoBulkAll elems + uptoBulkAll spare + 1
  | .agg parts => uptoBulkAll parts + 1
  | .iface _ d => uptoBulk d + 1
  | .map entries => uptoBulkEntries entries + 1
  | .held _ => 1
def uptoBulkAll {H : Type} : List (DataW H) → Nat
  | [] => 0
  | d :: r => uptoBulk d + uptoBulkAll r
def uptoBulkEntries {H : Type} : List (Lit × DataW H) → Nat
  | [] => 0
  | x :: r => uptoBulkEntry x + uptoBulkEntries r
def uptoBulkEntry {H : Type} : Lit × DataW H → Nat
  | (.string bytes, d) => bytes.length + uptoBulk d + 1
  | (_, d) => uptoBulk d + 1
 end
def uptoSmall : (H : Type) → List (DataW H) → Bool := fun _ ds => decide (uptoBulkAll ds ≤ 1048576)
def OpenSpec.upto (s : _root_.Go.ChangeSpec) : _root_.Go.OpenSpec := { _root_.Go.OpenSpec.ofChange s with cond := some uptoSmall }

/-- 'flotsamlaw11.PlogRetains', WHERE WHAT IT READS IS OF BULK AT MOST 1048576: true; the input reads as it did. -/
def plogRetainsUptoRow : OpenClaim := { program := "ytdlnafhhkpklmaagreatdoor", sum := "5f1a5c7e9d0df0411ca6c8405443f61a2dbeae0c468c8764e2390dd64091aa36", func := "flotsam/flotsamlaw11.PlogRetains", spec := "plogRetains", inPlace := ["internal/abi.NoEscape"], unfollowed := true, recurses := true, named := ["flotsam/crcc.steps"], apart := false, laid := [("flotsam/crcc.steps", laid_flotsam_crcc_steps)], narrowed := true }
def PlogRetainsUptoSaid : Prop := plogRetainsUptoRow.holds Tryz.pinned (OpenSpec.upto plogRetainsSpec)

/-- 'flotsamlaw11.PlogBegins', WHERE WHAT IT READS IS OF BULK AT MOST 1048576: true; the input reads as it did. -/
def plogBeginsUptoRow : OpenClaim := { program := "ytdlnafhhkpklmaagreatdoor", sum := "5f1a5c7e9d0df0411ca6c8405443f61a2dbeae0c468c8764e2390dd64091aa36", func := "flotsam/flotsamlaw11.PlogBegins", spec := "plogBegins", inPlace := ["internal/abi.NoEscape"], unfollowed := true, recurses := true, named := ["flotsam/crcc.steps"], apart := false, laid := [("flotsam/crcc.steps", laid_flotsam_crcc_steps)], narrowed := true }
def PlogBeginsUptoSaid : Prop := plogBeginsUptoRow.holds Tryz.pinned (OpenSpec.upto plogBeginsSpec)

/-- 'flotsamlaw11.PlogSafe', WHERE WHAT IT READS IS OF BULK AT MOST 1048576: true; the input reads as it did. -/
def plogSafeUptoRow : OpenClaim := { program := "ytdlnafhhkpklmaagreatdoor", sum := "5f1a5c7e9d0df0411ca6c8405443f61a2dbeae0c468c8764e2390dd64091aa36", func := "flotsam/flotsamlaw11.PlogSafe", spec := "plogSafe", inPlace := ["internal/abi.NoEscape"], unfollowed := true, recurses := true, named := ["flotsam/crcc.steps"], apart := false, laid := [("flotsam/crcc.steps", laid_flotsam_crcc_steps)], narrowed := true }
def PlogSafeUptoSaid : Prop := plogSafeUptoRow.holds Tryz.pinned (OpenSpec.upto plogSafeSpec)

/-- 'flotsamlaw11.PlogSame', WHERE WHAT IT READS IS OF BULK AT MOST 1048576: true; the input reads as it did. -/
def plogSameUptoRow : OpenClaim := { program := "ytdlnafhhkpklmaagreatdoor", sum := "5f1a5c7e9d0df0411ca6c8405443f61a2dbeae0c468c8764e2390dd64091aa36", func := "flotsam/flotsamlaw11.PlogSame", spec := "plogSame", inPlace := ["internal/abi.NoEscape"], unfollowed := true, recurses := true, named := ["flotsam/crcc.steps"], apart := false, laid := [("flotsam/crcc.steps", laid_flotsam_crcc_steps)], narrowed := true }
def PlogSameUptoSaid : Prop := plogSameUptoRow.holds Tryz.pinned (OpenSpec.upto plogSameSpec)

/-- 'flotsamlaw12.CleanSteps', WHERE WHAT IT READS IS OF BULK AT MOST 1048576: true; the input reads as it did. -/
def cleanStepsUptoRow : OpenClaim := { program := "ytdlnafhhkpklmaagreatdoor", sum := "5f1a5c7e9d0df0411ca6c8405443f61a2dbeae0c468c8764e2390dd64091aa36", func := "flotsam/flotsamlaw12.CleanSteps", spec := "cleanSteps", inPlace := ["internal/abi.NoEscape"], unfollowed := true, recurses := true, named := ["flotsam/crcc.steps"], apart := false, laid := [("flotsam/crcc.steps", laid_flotsam_crcc_steps)], narrowed := true }
def CleanStepsUptoSaid : Prop := cleanStepsUptoRow.holds Tryz.pinned (OpenSpec.upto cleanStepsSpec)

/-- 'flotsamlaw12.CleanSafe', WHERE WHAT IT READS IS OF BULK AT MOST 1048576: true; the input reads as it did. -/
def cleanSafeUptoRow : OpenClaim := { program := "ytdlnafhhkpklmaagreatdoor", sum := "5f1a5c7e9d0df0411ca6c8405443f61a2dbeae0c468c8764e2390dd64091aa36", func := "flotsam/flotsamlaw12.CleanSafe", spec := "cleanSafe", inPlace := ["internal/abi.NoEscape"], unfollowed := true, recurses := true, named := ["flotsam/crcc.steps"], apart := false, laid := [("flotsam/crcc.steps", laid_flotsam_crcc_steps)], narrowed := true }
def CleanSafeUptoSaid : Prop := cleanSafeUptoRow.holds Tryz.pinned (OpenSpec.upto cleanSafeSpec)

end Rows
end Go.Proofs.YtdlnafhhkpklmaaGreatDoor
