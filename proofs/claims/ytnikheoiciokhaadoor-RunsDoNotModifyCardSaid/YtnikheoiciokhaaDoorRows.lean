/-
  NARROWER THAN 'FOR EVERY INPUT', by the rows' own cells (each row's printed sentence says how): CsrMatchesReference: laid · RunsCompose: laid · RunUntilStopsFirst: laid · RunTrapsAreCounted: laid · RunsDoNotModify: laid · ReplayOrderedLogs: laid.
  DERIVED. THE GIVEN ROWS OF THIS SEAT. 6 by the template 'for every input the law returns true; each argument reads behind the call as it read before'; 0 by the template 'total and deterministic' (their statements: YtnikheoiciokhaaDoorTotals.lean).
  GIVEN WITH THE SEED: the statements are not yours to turn. If you find one false, say at which input.
  Laid BY PROGRAM, IN A SANDBOX (cutbox-rows.mjs): the forced cells as the released guide's own fill.sh prints them over the translation 9cf1b6f308e5017c… (all of the seat's roots in one cut). By AI agents, Wed Nov 11 2026. No macro, syntax, notation, axiom, sorry.
-/
import Derived.Test.YtnikheoiciokhaaDoorChecked
import GoSem.Claim
import GoSem.ClaimJoined
import GoSem.ClaimMapViews
import Derived.JoinedTies
import Derived.KernelRfl
namespace Go.Proofs.YtnikheoiciokhaaDoor
/- THE CELL 'sum', in the pinned program and in every row, IS THE sha256 OF THE DUMP (.gsa) THAT YtnikheoiciokhaaDoorProg.lean LOADS. Nothing in Lean hashes anything: it is a label: what it is worth is what the hold of that sum in a sandbox is worth. -/
noncomputable def Tryd.pinned : Pinned := { name := "ytnikheoiciokhaadoor", sum := "9cf1b6f308e5017cc113d46e79bd25135b3b5e0c6c0a0277977e3739d3b009f6", checked := Tryd.checked }
namespace Rows
def none {H : Type} : Left H := { results := [], args := [] }

/- WHAT THE LISTED PACKAGE-LEVEL VARIABLES READ AS WHEN THE CALL BEGINS. Each datum BY PROGRAM (the guide's laid-datum.mjs) off the statement by which the dump's own 'gosem.cut.vars' lays the variable. In a bare row this is a premise. The card (YtnikheoiciokhaaDoorCards.lean) ties it to the program's text. -/
def laid_gaoler_csr_names {H : Type} : DataW H := .agg [.lit (.string [115, 116, 97, 116, 117, 115]), .lit (.string [101, 112, 99]), .lit (.string [99, 97, 117, 115, 101]), .lit (.string [116, 118, 97, 108]), .lit (.string [116, 118, 101, 99]), .lit (.string [98, 97, 115, 101]), .lit (.string [98, 111, 117, 110, 100]), .lit (.string [116, 105, 109, 101]), .lit (.string [116, 105, 109, 101, 104]), .lit (.string [99, 109, 112]), .lit (.string [99, 109, 112, 104]), .lit (.string [115, 99, 114, 97, 116, 99, 104])]
def laid_gaoler_isa_forms {H : Type} : DataW H := .agg [.lit (.int .i64 0), .lit (.int .i64 1), .lit (.int .i64 1), .lit (.int .i64 1), .lit (.int .i64 1), .lit (.int .i64 1), .lit (.int .i64 1), .lit (.int .i64 1), .lit (.int .i64 1), .lit (.int .i64 2), .lit (.int .i64 3), .lit (.int .i64 2), .lit (.int .i64 2), .lit (.int .i64 2), .lit (.int .i64 2), .lit (.int .i64 2), .lit (.int .i64 2), .lit (.int .i64 2), .lit (.int .i64 3), .lit (.int .i64 2), .lit (.int .i64 4), .lit (.int .i64 5), .lit (.int .i64 6), .lit (.int .i64 4), .lit (.int .i64 4), .lit (.int .i64 7)]
def laid_gaoler_isa_parts {H : Type} : DataW H := .agg [.agg [.lit (.bool false), .lit (.bool false), .lit (.bool false), .lit (.bool false), .lit (.bool false)], .agg [.lit (.bool true), .lit (.bool true), .lit (.bool true), .lit (.bool false), .lit (.bool false)], .agg [.lit (.bool true), .lit (.bool true), .lit (.bool false), .lit (.bool true), .lit (.bool false)], .agg [.lit (.bool true), .lit (.bool false), .lit (.bool false), .lit (.bool true), .lit (.bool false)], .agg [.lit (.bool false), .lit (.bool false), .lit (.bool false), .lit (.bool false), .lit (.bool false)], .agg [.lit (.bool true), .lit (.bool false), .lit (.bool false), .lit (.bool false), .lit (.bool true)], .agg [.lit (.bool false), .lit (.bool true), .lit (.bool false), .lit (.bool false), .lit (.bool true)], .agg [.lit (.bool false), .lit (.bool true), .lit (.bool false), .lit (.bool false), .lit (.bool false)]]
def laid_gaoler_fetch_none {H : Type} : DataW H := .agg [.lit (.int .i64 0), .lit (.int .u32 0)]

/-- 'gaolerlaw04.CsrMatchesReference': WHATEVER THE INPUT: true; the input reads as it did. -/
def csrMatchesReferenceSpec : ChangeSpec := { name := "csrMatchesReference", fn := fun _ => fun
  | [d1, d2, d3, d4, d5] => { results := [.lit (.bool true)], args := [d1, d2, d3, d4, d5] }
  | _ => none }
def csrMatchesReferenceRow : OpenClaim := { program := "ytnikheoiciokhaadoor", sum := "9cf1b6f308e5017cc113d46e79bd25135b3b5e0c6c0a0277977e3739d3b009f6", func := "gaoler/gaolerlaw04.CsrMatchesReference", spec := "csrMatchesReference", named := ["gaoler/csr.names"], apart := false, laid := [("gaoler/csr.names", laid_gaoler_csr_names)] }
def CsrMatchesReferenceSaid : Prop := csrMatchesReferenceRow.holds Tryd.pinned (OpenSpec.ofChange csrMatchesReferenceSpec)

/-- ITS FALSE NEIGHBOUR: 'it returns false'. Refute it at one input. -/
def csrMatchesReferenceWrong : ChangeSpec := { name := "csrMatchesReference", fn := fun _ => fun
  | [d1, d2, d3, d4, d5] => { results := [.lit (.bool false)], args := [d1, d2, d3, d4, d5] }
  | _ => none }
def CsrMatchesReferenceWrongFalsely : Prop := csrMatchesReferenceRow.holds Tryd.pinned (OpenSpec.ofChange csrMatchesReferenceWrong)

/-- 'gaolerlaw14.RunsCompose': WHATEVER THE INPUT: true; the input reads as it did. -/
def runsComposeSpec : ChangeSpec := { name := "runsCompose", fn := fun _ => fun
  | [d1, d2, d3] => { results := [.lit (.bool true)], args := [d1, d2, d3] }
  | _ => none }
def runsComposeRow : OpenClaim := { program := "ytnikheoiciokhaadoor", sum := "9cf1b6f308e5017cc113d46e79bd25135b3b5e0c6c0a0277977e3739d3b009f6", func := "gaoler/gaolerlaw14.RunsCompose", spec := "runsCompose", unfollowed := true, recurses := true, named := ["gaoler/fetch.none", "gaoler/isa.parts", "gaoler/isa.forms"], apart := false, laid := [("gaoler/isa.forms", laid_gaoler_isa_forms), ("gaoler/isa.parts", laid_gaoler_isa_parts), ("gaoler/fetch.none", laid_gaoler_fetch_none)] }
def RunsComposeSaid : Prop := runsComposeRow.holds Tryd.pinned (OpenSpec.ofChange runsComposeSpec)

/-- ITS FALSE NEIGHBOUR: 'it returns false'. Refute it at one input. -/
def runsComposeWrong : ChangeSpec := { name := "runsCompose", fn := fun _ => fun
  | [d1, d2, d3] => { results := [.lit (.bool false)], args := [d1, d2, d3] }
  | _ => none }
def RunsComposeWrongFalsely : Prop := runsComposeRow.holds Tryd.pinned (OpenSpec.ofChange runsComposeWrong)

/-- 'gaolerlaw14.RunUntilStopsFirst': WHATEVER THE INPUT: true; the input reads as it did. -/
def runUntilStopsFirstSpec : ChangeSpec := { name := "runUntilStopsFirst", fn := fun _ => fun
  | [d1, d2, d3] => { results := [.lit (.bool true)], args := [d1, d2, d3] }
  | _ => none }
def runUntilStopsFirstRow : OpenClaim := { program := "ytnikheoiciokhaadoor", sum := "9cf1b6f308e5017cc113d46e79bd25135b3b5e0c6c0a0277977e3739d3b009f6", func := "gaoler/gaolerlaw14.RunUntilStopsFirst", spec := "runUntilStopsFirst", unfollowed := true, recurses := true, named := ["gaoler/fetch.none", "gaoler/isa.parts", "gaoler/isa.forms"], apart := false, laid := [("gaoler/isa.forms", laid_gaoler_isa_forms), ("gaoler/isa.parts", laid_gaoler_isa_parts), ("gaoler/fetch.none", laid_gaoler_fetch_none)] }
def RunUntilStopsFirstSaid : Prop := runUntilStopsFirstRow.holds Tryd.pinned (OpenSpec.ofChange runUntilStopsFirstSpec)

/-- ITS FALSE NEIGHBOUR: 'it returns false'. Refute it at one input. -/
def runUntilStopsFirstWrong : ChangeSpec := { name := "runUntilStopsFirst", fn := fun _ => fun
  | [d1, d2, d3] => { results := [.lit (.bool false)], args := [d1, d2, d3] }
  | _ => none }
def RunUntilStopsFirstWrongFalsely : Prop := runUntilStopsFirstRow.holds Tryd.pinned (OpenSpec.ofChange runUntilStopsFirstWrong)

/-- 'gaolerlaw14.RunTrapsAreCounted': WHATEVER THE INPUT: true; the input reads as it did. -/
def runTrapsAreCountedSpec : ChangeSpec := { name := "runTrapsAreCounted", fn := fun _ => fun
  | [d1, d2] => { results := [.lit (.bool true)], args := [d1, d2] }
  | _ => none }
def runTrapsAreCountedRow : OpenClaim := { program := "ytnikheoiciokhaadoor", sum := "9cf1b6f308e5017cc113d46e79bd25135b3b5e0c6c0a0277977e3739d3b009f6", func := "gaoler/gaolerlaw14.RunTrapsAreCounted", spec := "runTrapsAreCounted", unfollowed := true, recurses := true, named := ["gaoler/fetch.none", "gaoler/isa.parts", "gaoler/isa.forms"], apart := false, laid := [("gaoler/isa.forms", laid_gaoler_isa_forms), ("gaoler/isa.parts", laid_gaoler_isa_parts), ("gaoler/fetch.none", laid_gaoler_fetch_none)] }
def RunTrapsAreCountedSaid : Prop := runTrapsAreCountedRow.holds Tryd.pinned (OpenSpec.ofChange runTrapsAreCountedSpec)

/-- ITS FALSE NEIGHBOUR: 'it returns false'. Refute it at one input. -/
def runTrapsAreCountedWrong : ChangeSpec := { name := "runTrapsAreCounted", fn := fun _ => fun
  | [d1, d2] => { results := [.lit (.bool false)], args := [d1, d2] }
  | _ => none }
def RunTrapsAreCountedWrongFalsely : Prop := runTrapsAreCountedRow.holds Tryd.pinned (OpenSpec.ofChange runTrapsAreCountedWrong)

/-- 'gaolerlaw14.RunsDoNotModify': WHATEVER THE INPUT: true; the input reads as it did. -/
def runsDoNotModifySpec : ChangeSpec := { name := "runsDoNotModify", fn := fun _ => fun
  | [d1, d2] => { results := [.lit (.bool true)], args := [d1, d2] }
  | _ => none }
def runsDoNotModifyRow : OpenClaim := { program := "ytnikheoiciokhaadoor", sum := "9cf1b6f308e5017cc113d46e79bd25135b3b5e0c6c0a0277977e3739d3b009f6", func := "gaoler/gaolerlaw14.RunsDoNotModify", spec := "runsDoNotModify", unfollowed := true, recurses := true, named := ["gaoler/fetch.none", "gaoler/isa.parts", "gaoler/isa.forms"], apart := false, laid := [("gaoler/isa.forms", laid_gaoler_isa_forms), ("gaoler/isa.parts", laid_gaoler_isa_parts), ("gaoler/fetch.none", laid_gaoler_fetch_none)] }
def RunsDoNotModifySaid : Prop := runsDoNotModifyRow.holds Tryd.pinned (OpenSpec.ofChange runsDoNotModifySpec)

/-- ITS FALSE NEIGHBOUR: 'it returns false'. Refute it at one input. -/
def runsDoNotModifyWrong : ChangeSpec := { name := "runsDoNotModify", fn := fun _ => fun
  | [d1, d2] => { results := [.lit (.bool false)], args := [d1, d2] }
  | _ => none }
def RunsDoNotModifyWrongFalsely : Prop := runsDoNotModifyRow.holds Tryd.pinned (OpenSpec.ofChange runsDoNotModifyWrong)

/-- 'gaolerlaw26.ReplayOrderedLogs': WHATEVER THE INPUT: true; the input reads as it did. -/
def replayOrderedLogsSpec : ChangeSpec := { name := "replayOrderedLogs", fn := fun _ => fun
  | [d1, d2, d3] => { results := [.lit (.bool true)], args := [d1, d2, d3] }
  | _ => none }
def replayOrderedLogsRow : OpenClaim := { program := "ytnikheoiciokhaadoor", sum := "9cf1b6f308e5017cc113d46e79bd25135b3b5e0c6c0a0277977e3739d3b009f6", func := "gaoler/gaolerlaw26.ReplayOrderedLogs", spec := "replayOrderedLogs", unfollowed := true, recurses := true, named := ["gaoler/fetch.none", "gaoler/isa.parts", "gaoler/isa.forms"], apart := false, laid := [("gaoler/isa.forms", laid_gaoler_isa_forms), ("gaoler/isa.parts", laid_gaoler_isa_parts), ("gaoler/fetch.none", laid_gaoler_fetch_none)] }
def ReplayOrderedLogsSaid : Prop := replayOrderedLogsRow.holds Tryd.pinned (OpenSpec.ofChange replayOrderedLogsSpec)

/-- ITS FALSE NEIGHBOUR: 'it returns false'. Refute it at one input. -/
def replayOrderedLogsWrong : ChangeSpec := { name := "replayOrderedLogs", fn := fun _ => fun
  | [d1, d2, d3] => { results := [.lit (.bool false)], args := [d1, d2, d3] }
  | _ => none }
def ReplayOrderedLogsWrongFalsely : Prop := replayOrderedLogsRow.holds Tryd.pinned (OpenSpec.ofChange replayOrderedLogsWrong)

/- THE SECOND FORM. 'bulk': how many values and letters a reading holds, each counted each time it is reached (what is shared counts as often as it is met; a slice's spare places count too). A statement '..UptoSaid' is the law's where the arguments, and the package variables that the reading takes, are together of bulk at most 1048576: NARROWER than '..Said'. Prove '..Said' where nothing that the law and all that it calls make is longer than what came in: it says more and counts as full. Else prove '..UptoSaid'. A law counts once. -/
mutual
def uptoBulk {H : Type} : DataW H → Nat
  | .lit (.string bytes) => bytes.length + 1
  | .lit _ => 1
  | .nil => 1
  | .ptr d => uptoBulk d + 1
  | .slice elems spare => uptoBulkAll elems + uptoBulkAll spare + 1
  | .agg parts => uptoBulkAll parts + 1
  | .iface _ d => uptoBulk d + 1
  | .map entries => uptoBulkEntries entries + 1
  | .held _ => 1
def uptoBulkAll {H : Type} : List (DataW H) → Nat
  | [] => 0
  | d :: r => uptoBulk d + uptoBulkAll r
def uptoBulkEntries {H : Type} : List (Lit × DataW H) → Nat
  | [] => 0
  | x :: r => uptoBulkEntry x + uptoBulkEntries r
def uptoBulkEntry {H : Type} : Lit × DataW H → Nat
  | (.string bytes, d) => bytes.length + uptoBulk d + 1
  | (_, d) => uptoBulk d + 1
 end
def uptoSmall : (H : Type) → List (DataW H) → Bool := fun _ ds => decide (uptoBulkAll ds ≤ 1048576)
def OpenSpec.upto (s : _root_.Go.ChangeSpec) : _root_.Go.OpenSpec := { _root_.Go.OpenSpec.ofChange s with cond := some uptoSmall }

/-- 'gaolerlaw04.CsrMatchesReference', WHERE WHAT IT READS IS OF BULK AT MOST 1048576: true; the input reads as it did. -/
def csrMatchesReferenceUptoRow : OpenClaim := { program := "ytnikheoiciokhaadoor", sum := "9cf1b6f308e5017cc113d46e79bd25135b3b5e0c6c0a0277977e3739d3b009f6", func := "gaoler/gaolerlaw04.CsrMatchesReference", spec := "csrMatchesReference", named := ["gaoler/csr.names"], apart := false, laid := [("gaoler/csr.names", laid_gaoler_csr_names)], narrowed := true }
def CsrMatchesReferenceUptoSaid : Prop := csrMatchesReferenceUptoRow.holds Tryd.pinned (OpenSpec.upto csrMatchesReferenceSpec)

/-- 'gaolerlaw14.RunsCompose', WHERE WHAT IT READS IS OF BULK AT MOST 1048576: true; the input reads as it did. -/
def runsComposeUptoRow : OpenClaim := { program := "ytnikheoiciokhaadoor", sum := "9cf1b6f308e5017cc113d46e79bd25135b3b5e0c6c0a0277977e3739d3b009f6", func := "gaoler/gaolerlaw14.RunsCompose", spec := "runsCompose", unfollowed := true, recurses := true, named := ["gaoler/fetch.none", "gaoler/isa.parts", "gaoler/isa.forms"], apart := false, laid := [("gaoler/isa.forms", laid_gaoler_isa_forms), ("gaoler/isa.parts", laid_gaoler_isa_parts), ("gaoler/fetch.none", laid_gaoler_fetch_none)], narrowed := true }
def RunsComposeUptoSaid : Prop := runsComposeUptoRow.holds Tryd.pinned (OpenSpec.upto runsComposeSpec)

/-- 'gaolerlaw14.RunUntilStopsFirst', WHERE WHAT IT READS IS OF BULK AT MOST 1048576: true; the input reads as it did. -/
def runUntilStopsFirstUptoRow : OpenClaim := { program := "ytnikheoiciokhaadoor", sum := "9cf1b6f308e5017cc113d46e79bd25135b3b5e0c6c0a0277977e3739d3b009f6", func := "gaoler/gaolerlaw14.RunUntilStopsFirst", spec := "runUntilStopsFirst", unfollowed := true, recurses := true, named := ["gaoler/fetch.none", "gaoler/isa.parts", "gaoler/isa.forms"], apart := false, laid := [("gaoler/isa.forms", laid_gaoler_isa_forms), ("gaoler/isa.parts", laid_gaoler_isa_parts), ("gaoler/fetch.none", laid_gaoler_fetch_none)], narrowed := true }
def RunUntilStopsFirstUptoSaid : Prop := runUntilStopsFirstUptoRow.holds Tryd.pinned (OpenSpec.upto runUntilStopsFirstSpec)

/-- 'gaolerlaw14.RunTrapsAreCounted', WHERE WHAT IT READS IS OF BULK AT MOST 1048576: true; the input reads as it did. -/
def runTrapsAreCountedUptoRow : OpenClaim := { program := "ytnikheoiciokhaadoor", sum := "9cf1b6f308e5017cc113d46e79bd25135b3b5e0c6c0a0277977e3739d3b009f6", func := "gaoler/gaolerlaw14.RunTrapsAreCounted", spec := "runTrapsAreCounted", unfollowed := true, recurses := true, named := ["gaoler/fetch.none", "gaoler/isa.parts", "gaoler/isa.forms"], apart := false, laid := [("gaoler/isa.forms", laid_gaoler_isa_forms), ("gaoler/isa.parts", laid_gaoler_isa_parts), ("gaoler/fetch.none", laid_gaoler_fetch_none)], narrowed := true }
def RunTrapsAreCountedUptoSaid : Prop := runTrapsAreCountedUptoRow.holds Tryd.pinned (OpenSpec.upto runTrapsAreCountedSpec)

/-- 'gaolerlaw14.RunsDoNotModify', WHERE WHAT IT READS IS OF BULK AT MOST 1048576: true; the input reads as it did. -/
def runsDoNotModifyUptoRow : OpenClaim := { program := "ytnikheoiciokhaadoor", sum := "9cf1b6f308e5017cc113d46e79bd25135b3b5e0c6c0a0277977e3739d3b009f6", func := "gaoler/gaolerlaw14.RunsDoNotModify", spec := "runsDoNotModify", unfollowed := true, recurses := true, named := ["gaoler/fetch.none", "gaoler/isa.parts", "gaoler/isa.forms"], apart := false, laid := [("gaoler/isa.forms", laid_gaoler_isa_forms), ("gaoler/isa.parts", laid_gaoler_isa_parts), ("gaoler/fetch.none", laid_gaoler_fetch_none)], narrowed := true }
def RunsDoNotModifyUptoSaid : Prop := runsDoNotModifyUptoRow.holds Tryd.pinned (OpenSpec.upto runsDoNotModifySpec)

/-- 'gaolerlaw26.ReplayOrderedLogs', WHERE WHAT IT READS IS OF BULK AT MOST 1048576: true; the input reads as it did. -/
def replayOrderedLogsUptoRow : OpenClaim := { program := "ytnikheoiciokhaadoor", sum := "9cf1b6f308e5017cc113d46e79bd25135b3b5e0c6c0a0277977e3739d3b009f6", func := "gaoler/gaolerlaw26.ReplayOrderedLogs", spec := "replayOrderedLogs", unfollowed := true, recurses := true, named := ["gaoler/fetch.none", "gaoler/isa.parts", "gaoler/isa.forms"], apart := false, laid := [("gaoler/isa.forms", laid_gaoler_isa_forms), ("gaoler/isa.parts", laid_gaoler_isa_parts), ("gaoler/fetch.none", laid_gaoler_fetch_none)], narrowed := true }
def ReplayOrderedLogsUptoSaid : Prop := replayOrderedLogsUptoRow.holds Tryd.pinned (OpenSpec.upto replayOrderedLogsSpec)

end Rows
end Go.Proofs.YtnikheoiciokhaaDoor
