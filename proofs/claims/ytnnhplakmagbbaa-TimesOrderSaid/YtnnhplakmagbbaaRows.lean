/-
  No cell of these rows narrows 'for every input' (looked for: loops, veiled, ifaces, maps, wideKeys, modest, calm, conditions, laid).
  DERIVED. THE GIVEN ROWS OF THIS SEAT. 8 by the template 'for every input the law returns true; each argument reads behind the call as it read before'; 0 by the template 'total and deterministic' (their statements: YtnnhplakmagbbaaTotals.lean).
  GIVEN WITH THE SEED: the statements are not yours to turn. If you find one false, say at which input.
  Laid BY PROGRAM, IN A SANDBOX (cutbox-rows.mjs): the forced cells as the released guide's own fill.sh prints them over the translation ae6675ddb332062c… (all of the seat's roots in one cut). By AI agents, Wed Nov 11 2026. No macro, syntax, notation, axiom, sorry.
-/
import Derived.Test.YtnnhplakmagbbaaChecked
import GoSem.Claim
import GoSem.ClaimJoined
import GoSem.ClaimMapViews
import Derived.JoinedTies
import Derived.KernelRfl
namespace Go.Proofs.Ytnnhplakmagbbaa
/- THE CELL 'sum', in the pinned program and in every row, IS THE sha256 OF THE DUMP (.gsa) THAT YtnnhplakmagbbaaProg.lean LOADS. Nothing in Lean hashes anything: it is a label: what it is worth is what the hold of that sum in a sandbox is worth. -/
noncomputable def Try.pinned : Pinned := { name := "ytnnhplakmagbbaa", sum := "ae6675ddb332062c209b274e35d804bab31f0dc77fd6e31cf973c299370ff1a3", checked := Try.checked }
namespace Rows
def none {H : Type} : Left H := { results := [], args := [] }

/-- 'wainloadlaw15.TimesDates': WHATEVER THE INPUT: true; the input reads as it did. -/
def timesDatesSpec : ChangeSpec := { name := "timesDates", fn := fun _ => fun
  | [d] => { results := [.lit (.bool true)], args := [d] }
  | _ => none }
def timesDatesRow : OpenClaim := { program := "ytnnhplakmagbbaa", sum := "ae6675ddb332062c209b274e35d804bab31f0dc77fd6e31cf973c299370ff1a3", func := "wainload/wainloadlaw15.TimesDates", spec := "timesDates", unfollowed := true, recurses := true, apart := false }
def TimesDatesSaid : Prop := timesDatesRow.holds Try.pinned (OpenSpec.ofChange timesDatesSpec)

/-- ITS FALSE NEIGHBOUR: 'it returns false'. Refute it at one input. -/
def timesDatesWrong : ChangeSpec := { name := "timesDates", fn := fun _ => fun
  | [d] => { results := [.lit (.bool false)], args := [d] }
  | _ => none }
def TimesDatesWrongFalsely : Prop := timesDatesRow.holds Try.pinned (OpenSpec.ofChange timesDatesWrong)

/-- 'wainloadlaw15.TimesDays': WHATEVER THE INPUT: true; the input reads as it did. -/
def timesDaysSpec : ChangeSpec := { name := "timesDays", fn := fun _ => fun
  | [d] => { results := [.lit (.bool true)], args := [d] }
  | _ => none }
def timesDaysRow : OpenClaim := { program := "ytnnhplakmagbbaa", sum := "ae6675ddb332062c209b274e35d804bab31f0dc77fd6e31cf973c299370ff1a3", func := "wainload/wainloadlaw15.TimesDays", spec := "timesDays", unfollowed := true, recurses := true, apart := false }
def TimesDaysSaid : Prop := timesDaysRow.holds Try.pinned (OpenSpec.ofChange timesDaysSpec)

/-- ITS FALSE NEIGHBOUR: 'it returns false'. Refute it at one input. -/
def timesDaysWrong : ChangeSpec := { name := "timesDays", fn := fun _ => fun
  | [d] => { results := [.lit (.bool false)], args := [d] }
  | _ => none }
def TimesDaysWrongFalsely : Prop := timesDaysRow.holds Try.pinned (OpenSpec.ofChange timesDaysWrong)

/-- 'wainloadlaw15.TimesDaily': WHATEVER THE INPUT: true; the input reads as it did. -/
def timesDailySpec : ChangeSpec := { name := "timesDaily", fn := fun _ => fun
  | [d] => { results := [.lit (.bool true)], args := [d] }
  | _ => none }
def timesDailyRow : OpenClaim := { program := "ytnnhplakmagbbaa", sum := "ae6675ddb332062c209b274e35d804bab31f0dc77fd6e31cf973c299370ff1a3", func := "wainload/wainloadlaw15.TimesDaily", spec := "timesDaily", unfollowed := true, recurses := true, apart := false }
def TimesDailySaid : Prop := timesDailyRow.holds Try.pinned (OpenSpec.ofChange timesDailySpec)

/-- ITS FALSE NEIGHBOUR: 'it returns false'. Refute it at one input. -/
def timesDailyWrong : ChangeSpec := { name := "timesDaily", fn := fun _ => fun
  | [d] => { results := [.lit (.bool false)], args := [d] }
  | _ => none }
def TimesDailyWrongFalsely : Prop := timesDailyRow.holds Try.pinned (OpenSpec.ofChange timesDailyWrong)

/-- 'wainloadlaw15.TimesNt': WHATEVER THE INPUT: true; the input reads as it did. -/
def timesNtSpec : ChangeSpec := { name := "timesNt", fn := fun _ => fun
  | [d1, d2] => { results := [.lit (.bool true)], args := [d1, d2] }
  | _ => none }
def timesNtRow : OpenClaim := { program := "ytnnhplakmagbbaa", sum := "ae6675ddb332062c209b274e35d804bab31f0dc77fd6e31cf973c299370ff1a3", func := "wainload/wainloadlaw15.TimesNt", spec := "timesNt", unfollowed := true, recurses := true, apart := false }
def TimesNtSaid : Prop := timesNtRow.holds Try.pinned (OpenSpec.ofChange timesNtSpec)

/-- ITS FALSE NEIGHBOUR: 'it returns false'. Refute it at one input. -/
def timesNtWrong : ChangeSpec := { name := "timesNt", fn := fun _ => fun
  | [d1, d2] => { results := [.lit (.bool false)], args := [d1, d2] }
  | _ => none }
def TimesNtWrongFalsely : Prop := timesNtRow.holds Try.pinned (OpenSpec.ofChange timesNtWrong)

/-- 'wainloadlaw15.TimesOrder': WHATEVER THE INPUT: true; the input reads as it did. -/
def timesOrderSpec : ChangeSpec := { name := "timesOrder", fn := fun _ => fun
  | [d1, d2] => { results := [.lit (.bool true)], args := [d1, d2] }
  | _ => none }
def timesOrderRow : OpenClaim := { program := "ytnnhplakmagbbaa", sum := "ae6675ddb332062c209b274e35d804bab31f0dc77fd6e31cf973c299370ff1a3", func := "wainload/wainloadlaw15.TimesOrder", spec := "timesOrder", unfollowed := true, recurses := true, apart := false }
def TimesOrderSaid : Prop := timesOrderRow.holds Try.pinned (OpenSpec.ofChange timesOrderSpec)

/-- ITS FALSE NEIGHBOUR: 'it returns false'. Refute it at one input. -/
def timesOrderWrong : ChangeSpec := { name := "timesOrder", fn := fun _ => fun
  | [d1, d2] => { results := [.lit (.bool false)], args := [d1, d2] }
  | _ => none }
def TimesOrderWrongFalsely : Prop := timesOrderRow.holds Try.pinned (OpenSpec.ofChange timesOrderWrong)

/-- 'wainloadlaw15.TimesDos': WHATEVER THE INPUT: true; the input reads as it did. -/
def timesDosSpec : ChangeSpec := { name := "timesDos", fn := fun _ => fun
  | [d1, d2, d3] => { results := [.lit (.bool true)], args := [d1, d2, d3] }
  | _ => none }
def timesDosRow : OpenClaim := { program := "ytnnhplakmagbbaa", sum := "ae6675ddb332062c209b274e35d804bab31f0dc77fd6e31cf973c299370ff1a3", func := "wainload/wainloadlaw15.TimesDos", spec := "timesDos", unfollowed := true, recurses := true, apart := false }
def TimesDosSaid : Prop := timesDosRow.holds Try.pinned (OpenSpec.ofChange timesDosSpec)

/-- ITS FALSE NEIGHBOUR: 'it returns false'. Refute it at one input. -/
def timesDosWrong : ChangeSpec := { name := "timesDos", fn := fun _ => fun
  | [d1, d2, d3] => { results := [.lit (.bool false)], args := [d1, d2, d3] }
  | _ => none }
def TimesDosWrongFalsely : Prop := timesDosRow.holds Try.pinned (OpenSpec.ofChange timesDosWrong)

/-- 'wainloadlaw15.TimesUnix': WHATEVER THE INPUT: true; the input reads as it did. -/
def timesUnixSpec : ChangeSpec := { name := "timesUnix", fn := fun _ => fun
  | [d1, d2] => { results := [.lit (.bool true)], args := [d1, d2] }
  | _ => none }
def timesUnixRow : OpenClaim := { program := "ytnnhplakmagbbaa", sum := "ae6675ddb332062c209b274e35d804bab31f0dc77fd6e31cf973c299370ff1a3", func := "wainload/wainloadlaw15.TimesUnix", spec := "timesUnix", unfollowed := true, recurses := true, apart := false }
def TimesUnixSaid : Prop := timesUnixRow.holds Try.pinned (OpenSpec.ofChange timesUnixSpec)

/-- ITS FALSE NEIGHBOUR: 'it returns false'. Refute it at one input. -/
def timesUnixWrong : ChangeSpec := { name := "timesUnix", fn := fun _ => fun
  | [d1, d2] => { results := [.lit (.bool false)], args := [d1, d2] }
  | _ => none }
def TimesUnixWrongFalsely : Prop := timesUnixRow.holds Try.pinned (OpenSpec.ofChange timesUnixWrong)

/-- 'wainloadlaw15.TimesFloors': WHATEVER THE INPUT: true; the input reads as it did. -/
def timesFloorsSpec : ChangeSpec := { name := "timesFloors", fn := fun _ => fun
  | [d1, d2] => { results := [.lit (.bool true)], args := [d1, d2] }
  | _ => none }
def timesFloorsRow : OpenClaim := { program := "ytnnhplakmagbbaa", sum := "ae6675ddb332062c209b274e35d804bab31f0dc77fd6e31cf973c299370ff1a3", func := "wainload/wainloadlaw15.TimesFloors", spec := "timesFloors", unfollowed := true, recurses := true, apart := false }
def TimesFloorsSaid : Prop := timesFloorsRow.holds Try.pinned (OpenSpec.ofChange timesFloorsSpec)

/-- ITS FALSE NEIGHBOUR: 'it returns false'. Refute it at one input. -/
def timesFloorsWrong : ChangeSpec := { name := "timesFloors", fn := fun _ => fun
  | [d1, d2] => { results := [.lit (.bool false)], args := [d1, d2] }
  | _ => none }
def TimesFloorsWrongFalsely : Prop := timesFloorsRow.holds Try.pinned (OpenSpec.ofChange timesFloorsWrong)

/- THE SECOND FORM. 'bulk': how many values and letters a reading holds, each counted each time it is reached (what is shared counts as often as it is met; a slice's spare places count too). A statement '..UptoSaid' is the law's where the arguments, and the package variables that the reading takes, are together of bulk at most 1048576: NARROWER than '..Said'. Prove '..Said' where nothing that the law and all that it calls make is longer than what came in: it says more and counts as full. Else prove '..UptoSaid'. A law counts once. -/
mutual
def uptoBulk {H : Type} : DataW H → Nat
  | .lit (.string bytes) => bytes.length + 1
  | .lit _ => 1
  | .nil => 1
  | .ptr d => uptoBulk d + 1
  | .slice elems spare => uptoBulkAll elems + uptoBulkAll spare + 1
  | .agg parts => uptoBulkAll parts + 1
  | .iface _ d => uptoBulk d + 1
  | .map entries => uptoBulkEntries entries + 1
  | .held _ => 1
def uptoBulkAll {H : Type} : List (DataW H) → Nat
  | [] => 0
  | d :: r => uptoBulk d + uptoBulkAll r
def uptoBulkEntries {H : Type} : List (Lit × DataW H) → Nat
  | [] => 0
  | x :: r => uptoBulkEntry x + uptoBulkEntries r
def uptoBulkEntry {H : Type} : Lit × DataW H → Nat
  | (.string bytes, d) => bytes.length + uptoBulk d + 1
  | (_, d) => uptoBulk d + 1
 end
def uptoSmall : (H : Type) → List (DataW H) → Bool := fun _ ds => decide (uptoBulkAll ds ≤ 1048576)
def OpenSpec.upto (s : _root_.Go.ChangeSpec) : _root_.Go.OpenSpec := { _root_.Go.OpenSpec.ofChange s with cond := some uptoSmall }

/-- 'wainloadlaw15.TimesDates', WHERE WHAT IT READS IS OF BULK AT MOST 1048576: true; the input reads as it did. -/
def timesDatesUptoRow : OpenClaim := { program := "ytnnhplakmagbbaa", sum := "ae6675ddb332062c209b274e35d804bab31f0dc77fd6e31cf973c299370ff1a3", func := "wainload/wainloadlaw15.TimesDates", spec := "timesDates", unfollowed := true, recurses := true, apart := false, narrowed := true }
def TimesDatesUptoSaid : Prop := timesDatesUptoRow.holds Try.pinned (OpenSpec.upto timesDatesSpec)

/-- 'wainloadlaw15.TimesDays', WHERE WHAT IT READS IS OF BULK AT MOST 1048576: true; the input reads as it did. -/
def timesDaysUptoRow : OpenClaim := { program := "ytnnhplakmagbbaa", sum := "ae6675ddb332062c209b274e35d804bab31f0dc77fd6e31cf973c299370ff1a3", func := "wainload/wainloadlaw15.TimesDays", spec := "timesDays", unfollowed := true, recurses := true, apart := false, narrowed := true }
def TimesDaysUptoSaid : Prop := timesDaysUptoRow.holds Try.pinned (OpenSpec.upto timesDaysSpec)

/-- 'wainloadlaw15.TimesDaily', WHERE WHAT IT READS IS OF BULK AT MOST 1048576: true; the input reads as it did. -/
def timesDailyUptoRow : OpenClaim := { program := "ytnnhplakmagbbaa", sum := "ae6675ddb332062c209b274e35d804bab31f0dc77fd6e31cf973c299370ff1a3", func := "wainload/wainloadlaw15.TimesDaily", spec := "timesDaily", unfollowed := true, recurses := true, apart := false, narrowed := true }
def TimesDailyUptoSaid : Prop := timesDailyUptoRow.holds Try.pinned (OpenSpec.upto timesDailySpec)

/-- 'wainloadlaw15.TimesNt', WHERE WHAT IT READS IS OF BULK AT MOST 1048576: true; the input reads as it did. -/
def timesNtUptoRow : OpenClaim := { program := "ytnnhplakmagbbaa", sum := "ae6675ddb332062c209b274e35d804bab31f0dc77fd6e31cf973c299370ff1a3", func := "wainload/wainloadlaw15.TimesNt", spec := "timesNt", unfollowed := true, recurses := true, apart := false, narrowed := true }
def TimesNtUptoSaid : Prop := timesNtUptoRow.holds Try.pinned (OpenSpec.upto timesNtSpec)

/-- 'wainloadlaw15.TimesOrder', WHERE WHAT IT READS IS OF BULK AT MOST 1048576: true; the input reads as it did. -/
def timesOrderUptoRow : OpenClaim := { program := "ytnnhplakmagbbaa", sum := "ae6675ddb332062c209b274e35d804bab31f0dc77fd6e31cf973c299370ff1a3", func := "wainload/wainloadlaw15.TimesOrder", spec := "timesOrder", unfollowed := true, recurses := true, apart := false, narrowed := true }
def TimesOrderUptoSaid : Prop := timesOrderUptoRow.holds Try.pinned (OpenSpec.upto timesOrderSpec)

/-- 'wainloadlaw15.TimesDos', WHERE WHAT IT READS IS OF BULK AT MOST 1048576: true; the input reads as it did. -/
def timesDosUptoRow : OpenClaim := { program := "ytnnhplakmagbbaa", sum := "ae6675ddb332062c209b274e35d804bab31f0dc77fd6e31cf973c299370ff1a3", func := "wainload/wainloadlaw15.TimesDos", spec := "timesDos", unfollowed := true, recurses := true, apart := false, narrowed := true }
def TimesDosUptoSaid : Prop := timesDosUptoRow.holds Try.pinned (OpenSpec.upto timesDosSpec)

/-- 'wainloadlaw15.TimesUnix', WHERE WHAT IT READS IS OF BULK AT MOST 1048576: true; the input reads as it did. -/
def timesUnixUptoRow : OpenClaim := { program := "ytnnhplakmagbbaa", sum := "ae6675ddb332062c209b274e35d804bab31f0dc77fd6e31cf973c299370ff1a3", func := "wainload/wainloadlaw15.TimesUnix", spec := "timesUnix", unfollowed := true, recurses := true, apart := false, narrowed := true }
def TimesUnixUptoSaid : Prop := timesUnixUptoRow.holds Try.pinned (OpenSpec.upto timesUnixSpec)

/-- 'wainloadlaw15.TimesFloors', WHERE WHAT IT READS IS OF BULK AT MOST 1048576: true; the input reads as it did. -/
def timesFloorsUptoRow : OpenClaim := { program := "ytnnhplakmagbbaa", sum := "ae6675ddb332062c209b274e35d804bab31f0dc77fd6e31cf973c299370ff1a3", func := "wainload/wainloadlaw15.TimesFloors", spec := "timesFloors", unfollowed := true, recurses := true, apart := false, narrowed := true }
def TimesFloorsUptoSaid : Prop := timesFloorsUptoRow.holds Try.pinned (OpenSpec.upto timesFloorsSpec)

end Rows
end Go.Proofs.Ytnnhplakmagbbaa
