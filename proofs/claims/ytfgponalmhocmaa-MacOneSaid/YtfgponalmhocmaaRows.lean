/-
  No cell of these rows narrows 'for every input' (looked for: loops, veiled, ifaces, maps, wideKeys, modest, calm, conditions, laid).
  DERIVED. THE GIVEN ROWS OF THIS SEAT. 11 by the template 'for every input the law returns true; each argument reads behind the call as it read before'; 0 by the template 'total and deterministic' (their statements: YtfgponalmhocmaaTotals.lean).
  GIVEN WITH THE SEED: the statements are not yours to turn. If you find one false, say at which input.
  Laid BY PROGRAM, IN A SANDBOX (cutbox-rows.mjs): the forced cells as the released guide's own fill.sh prints them over the translation 710b05317deaaecc… (all of the seat's roots in one cut). By AI agents, Wed Nov 11 2026. No macro, syntax, notation, axiom, sorry.
-/
import Derived.Test.YtfgponalmhocmaaChecked
import GoSem.Claim
import GoSem.ClaimJoined
import GoSem.ClaimMapViews
import Derived.JoinedTies
import Derived.KernelRfl
namespace Go.Proofs.Ytfgponalmhocmaa
/- THE CELL 'sum', in the pinned program and in every row, IS THE sha256 OF THE DUMP (.gsa) THAT YtfgponalmhocmaaProg.lean LOADS. Nothing in Lean hashes anything: it is a label: what it is worth is what the hold of that sum in a sandbox is worth. -/
noncomputable def Try.pinned : Pinned := { name := "ytfgponalmhocmaa", sum := "710b05317deaaecc268c978ea6e532f6e0c85d19fd913ac869e349345137456b", checked := Try.checked }
namespace Rows
def none {H : Type} : Left H := { results := [], args := [] }

/-- 'wainloadlaw10.DigestSums': WHATEVER THE INPUT: true; the input reads as it did. -/
def digestSumsSpec : ChangeSpec := { name := "digestSums", fn := fun _ => fun
  | [d] => { results := [.lit (.bool true)], args := [d] }
  | _ => none }
def digestSumsRow : OpenClaim := { program := "ytfgponalmhocmaa", sum := "710b05317deaaecc268c978ea6e532f6e0c85d19fd913ac869e349345137456b", func := "wainload/wainloadlaw10.DigestSums", spec := "digestSums", apart := false }
def DigestSumsSaid : Prop := digestSumsRow.holds Try.pinned (OpenSpec.ofChange digestSumsSpec)

/-- ITS FALSE NEIGHBOUR: 'it returns false'. Refute it at one input. -/
def digestSumsWrong : ChangeSpec := { name := "digestSums", fn := fun _ => fun
  | [d] => { results := [.lit (.bool false)], args := [d] }
  | _ => none }
def DigestSumsWrongFalsely : Prop := digestSumsRow.holds Try.pinned (OpenSpec.ofChange digestSumsWrong)

/-- 'wainloadlaw10.DigestPieces': WHATEVER THE INPUT: true; the input reads as it did. -/
def digestPiecesSpec : ChangeSpec := { name := "digestPieces", fn := fun _ => fun
  | [d] => { results := [.lit (.bool true)], args := [d] }
  | _ => none }
def digestPiecesRow : OpenClaim := { program := "ytfgponalmhocmaa", sum := "710b05317deaaecc268c978ea6e532f6e0c85d19fd913ac869e349345137456b", func := "wainload/wainloadlaw10.DigestPieces", spec := "digestPieces", apart := false }
def DigestPiecesSaid : Prop := digestPiecesRow.holds Try.pinned (OpenSpec.ofChange digestPiecesSpec)

/-- ITS FALSE NEIGHBOUR: 'it returns false'. Refute it at one input. -/
def digestPiecesWrong : ChangeSpec := { name := "digestPieces", fn := fun _ => fun
  | [d] => { results := [.lit (.bool false)], args := [d] }
  | _ => none }
def DigestPiecesWrongFalsely : Prop := digestPiecesRow.holds Try.pinned (OpenSpec.ofChange digestPiecesWrong)

/-- 'wainloadlaw10.DigestLong': WHATEVER THE INPUT: true; the input reads as it did. -/
def digestLongSpec : ChangeSpec := { name := "digestLong", fn := fun _ => fun
  | [d1, d2] => { results := [.lit (.bool true)], args := [d1, d2] }
  | _ => none }
def digestLongRow : OpenClaim := { program := "ytfgponalmhocmaa", sum := "710b05317deaaecc268c978ea6e532f6e0c85d19fd913ac869e349345137456b", func := "wainload/wainloadlaw10.DigestLong", spec := "digestLong", apart := false }
def DigestLongSaid : Prop := digestLongRow.holds Try.pinned (OpenSpec.ofChange digestLongSpec)

/-- ITS FALSE NEIGHBOUR: 'it returns false'. Refute it at one input. -/
def digestLongWrong : ChangeSpec := { name := "digestLong", fn := fun _ => fun
  | [d1, d2] => { results := [.lit (.bool false)], args := [d1, d2] }
  | _ => none }
def DigestLongWrongFalsely : Prop := digestLongRow.holds Try.pinned (OpenSpec.ofChange digestLongWrong)

/-- 'wainloadlaw10.DigestKeeps': WHATEVER THE INPUT: true; the input reads as it did. -/
def digestKeepsSpec : ChangeSpec := { name := "digestKeeps", fn := fun _ => fun
  | [d1, d2] => { results := [.lit (.bool true)], args := [d1, d2] }
  | _ => none }
def digestKeepsRow : OpenClaim := { program := "ytfgponalmhocmaa", sum := "710b05317deaaecc268c978ea6e532f6e0c85d19fd913ac869e349345137456b", func := "wainload/wainloadlaw10.DigestKeeps", spec := "digestKeeps", apart := false }
def DigestKeepsSaid : Prop := digestKeepsRow.holds Try.pinned (OpenSpec.ofChange digestKeepsSpec)

/-- ITS FALSE NEIGHBOUR: 'it returns false'. Refute it at one input. -/
def digestKeepsWrong : ChangeSpec := { name := "digestKeeps", fn := fun _ => fun
  | [d1, d2] => { results := [.lit (.bool false)], args := [d1, d2] }
  | _ => none }
def DigestKeepsWrongFalsely : Prop := digestKeepsRow.holds Try.pinned (OpenSpec.ofChange digestKeepsWrong)

/-- 'wainloadlaw11.MacSums': WHATEVER THE INPUT: true; the input reads as it did. -/
def macSumsSpec : ChangeSpec := { name := "macSums", fn := fun _ => fun
  | [d1, d2] => { results := [.lit (.bool true)], args := [d1, d2] }
  | _ => none }
def macSumsRow : OpenClaim := { program := "ytfgponalmhocmaa", sum := "710b05317deaaecc268c978ea6e532f6e0c85d19fd913ac869e349345137456b", func := "wainload/wainloadlaw11.MacSums", spec := "macSums", unfollowed := true, recurses := true, apart := false }
def MacSumsSaid : Prop := macSumsRow.holds Try.pinned (OpenSpec.ofChange macSumsSpec)

/-- ITS FALSE NEIGHBOUR: 'it returns false'. Refute it at one input. -/
def macSumsWrong : ChangeSpec := { name := "macSums", fn := fun _ => fun
  | [d1, d2] => { results := [.lit (.bool false)], args := [d1, d2] }
  | _ => none }
def MacSumsWrongFalsely : Prop := macSumsRow.holds Try.pinned (OpenSpec.ofChange macSumsWrong)

/-- 'wainloadlaw11.MacSame': WHATEVER THE INPUT: true; the input reads as it did. -/
def macSameSpec : ChangeSpec := { name := "macSame", fn := fun _ => fun
  | [d1, d2] => { results := [.lit (.bool true)], args := [d1, d2] }
  | _ => none }
def macSameRow : OpenClaim := { program := "ytfgponalmhocmaa", sum := "710b05317deaaecc268c978ea6e532f6e0c85d19fd913ac869e349345137456b", func := "wainload/wainloadlaw11.MacSame", spec := "macSame", unfollowed := true, recurses := true, apart := false }
def MacSameSaid : Prop := macSameRow.holds Try.pinned (OpenSpec.ofChange macSameSpec)

/-- ITS FALSE NEIGHBOUR: 'it returns false'. Refute it at one input. -/
def macSameWrong : ChangeSpec := { name := "macSame", fn := fun _ => fun
  | [d1, d2] => { results := [.lit (.bool false)], args := [d1, d2] }
  | _ => none }
def MacSameWrongFalsely : Prop := macSameRow.holds Try.pinned (OpenSpec.ofChange macSameWrong)

/-- 'wainloadlaw11.MacKeys': WHATEVER THE INPUT: true; the input reads as it did. -/
def macKeysSpec : ChangeSpec := { name := "macKeys", fn := fun _ => fun
  | [d1, d2, d3] => { results := [.lit (.bool true)], args := [d1, d2, d3] }
  | _ => none }
def macKeysRow : OpenClaim := { program := "ytfgponalmhocmaa", sum := "710b05317deaaecc268c978ea6e532f6e0c85d19fd913ac869e349345137456b", func := "wainload/wainloadlaw11.MacKeys", spec := "macKeys", unfollowed := true, recurses := true, apart := false }
def MacKeysSaid : Prop := macKeysRow.holds Try.pinned (OpenSpec.ofChange macKeysSpec)

/-- ITS FALSE NEIGHBOUR: 'it returns false'. Refute it at one input. -/
def macKeysWrong : ChangeSpec := { name := "macKeys", fn := fun _ => fun
  | [d1, d2, d3] => { results := [.lit (.bool false)], args := [d1, d2, d3] }
  | _ => none }
def MacKeysWrongFalsely : Prop := macKeysRow.holds Try.pinned (OpenSpec.ofChange macKeysWrong)

/-- 'wainloadlaw11.MacBegins': WHATEVER THE INPUT: true; the input reads as it did. -/
def macBeginsSpec : ChangeSpec := { name := "macBegins", fn := fun _ => fun
  | [d1, d2, d3] => { results := [.lit (.bool true)], args := [d1, d2, d3] }
  | _ => none }
def macBeginsRow : OpenClaim := { program := "ytfgponalmhocmaa", sum := "710b05317deaaecc268c978ea6e532f6e0c85d19fd913ac869e349345137456b", func := "wainload/wainloadlaw11.MacBegins", spec := "macBegins", unfollowed := true, recurses := true, apart := false }
def MacBeginsSaid : Prop := macBeginsRow.holds Try.pinned (OpenSpec.ofChange macBeginsSpec)

/-- ITS FALSE NEIGHBOUR: 'it returns false'. Refute it at one input. -/
def macBeginsWrong : ChangeSpec := { name := "macBegins", fn := fun _ => fun
  | [d1, d2, d3] => { results := [.lit (.bool false)], args := [d1, d2, d3] }
  | _ => none }
def MacBeginsWrongFalsely : Prop := macBeginsRow.holds Try.pinned (OpenSpec.ofChange macBeginsWrong)

/-- 'wainloadlaw11.MacKeeps': WHATEVER THE INPUT: true; the input reads as it did. -/
def macKeepsSpec : ChangeSpec := { name := "macKeeps", fn := fun _ => fun
  | [d1, d2] => { results := [.lit (.bool true)], args := [d1, d2] }
  | _ => none }
def macKeepsRow : OpenClaim := { program := "ytfgponalmhocmaa", sum := "710b05317deaaecc268c978ea6e532f6e0c85d19fd913ac869e349345137456b", func := "wainload/wainloadlaw11.MacKeeps", spec := "macKeeps", unfollowed := true, recurses := true, apart := false }
def MacKeepsSaid : Prop := macKeepsRow.holds Try.pinned (OpenSpec.ofChange macKeepsSpec)

/-- ITS FALSE NEIGHBOUR: 'it returns false'. Refute it at one input. -/
def macKeepsWrong : ChangeSpec := { name := "macKeeps", fn := fun _ => fun
  | [d1, d2] => { results := [.lit (.bool false)], args := [d1, d2] }
  | _ => none }
def MacKeepsWrongFalsely : Prop := macKeepsRow.holds Try.pinned (OpenSpec.ofChange macKeepsWrong)

/-- 'wainloadlaw11.MacLong': WHATEVER THE INPUT: true; the input reads as it did. -/
def macLongSpec : ChangeSpec := { name := "macLong", fn := fun _ => fun
  | [d1, d2, d3] => { results := [.lit (.bool true)], args := [d1, d2, d3] }
  | _ => none }
def macLongRow : OpenClaim := { program := "ytfgponalmhocmaa", sum := "710b05317deaaecc268c978ea6e532f6e0c85d19fd913ac869e349345137456b", func := "wainload/wainloadlaw11.MacLong", spec := "macLong", unfollowed := true, recurses := true, apart := false }
def MacLongSaid : Prop := macLongRow.holds Try.pinned (OpenSpec.ofChange macLongSpec)

/-- ITS FALSE NEIGHBOUR: 'it returns false'. Refute it at one input. -/
def macLongWrong : ChangeSpec := { name := "macLong", fn := fun _ => fun
  | [d1, d2, d3] => { results := [.lit (.bool false)], args := [d1, d2, d3] }
  | _ => none }
def MacLongWrongFalsely : Prop := macLongRow.holds Try.pinned (OpenSpec.ofChange macLongWrong)

/-- 'wainloadlaw11.MacOne': WHATEVER THE INPUT: true; the input reads as it did. -/
def macOneSpec : ChangeSpec := { name := "macOne", fn := fun _ => fun
  | [d1, d2, d3] => { results := [.lit (.bool true)], args := [d1, d2, d3] }
  | _ => none }
def macOneRow : OpenClaim := { program := "ytfgponalmhocmaa", sum := "710b05317deaaecc268c978ea6e532f6e0c85d19fd913ac869e349345137456b", func := "wainload/wainloadlaw11.MacOne", spec := "macOne", unfollowed := true, recurses := true, apart := false }
def MacOneSaid : Prop := macOneRow.holds Try.pinned (OpenSpec.ofChange macOneSpec)

/-- ITS FALSE NEIGHBOUR: 'it returns false'. Refute it at one input. -/
def macOneWrong : ChangeSpec := { name := "macOne", fn := fun _ => fun
  | [d1, d2, d3] => { results := [.lit (.bool false)], args := [d1, d2, d3] }
  | _ => none }
def MacOneWrongFalsely : Prop := macOneRow.holds Try.pinned (OpenSpec.ofChange macOneWrong)

/- THE SECOND FORM. 'bulk': how many values and letters a reading holds, each counted each time it is reached (what is shared counts as often as it is met; a slice's spare places count too). A statement '..UptoSaid' is the law's where the arguments, and the package variables that the reading takes, are together of bulk at most 1048576: NARROWER than '..Said'. Prove '..Said' where nothing that the law and all that it calls make is longer than what came in: it says more and counts as full. Else prove '..UptoSaid'. A law counts once. -/
mutual
def uptoBulk {H : Type} : DataW H → Nat
  | .lit (.string bytes) => bytes.length + 1
  | .lit _ => 1
  | .nil => 1
  | .ptr d => uptoBulk d + 1
  | .slice elems spare => uptoBulkAll elems + uptoBulkAll spare + 1
  | .agg parts => uptoBulkAll parts + 1
  | .iface _ d => uptoBulk d + 1
  | .map entries => uptoBulkEntries entries + 1
  | .held _ => 1
def uptoBulkAll {H : Type} : List (DataW H) → Nat
  | [] => 0
  | d :: r => uptoBulk d + uptoBulkAll r
def uptoBulkEntries {H : Type} : List (Lit × DataW H) → Nat
  | [] => 0
  | x :: r => uptoBulkEntry x + uptoBulkEntries r
def uptoBulkEntry {H : Type} : Lit × DataW H → Nat
  | (.string bytes, d) => bytes.length + uptoBulk d + 1
  | (_, d) => uptoBulk d + 1
 end
def uptoSmall : (H : Type) → List (DataW H) → Bool := fun _ ds => decide (uptoBulkAll ds ≤ 1048576)
def OpenSpec.upto (s : _root_.Go.ChangeSpec) : _root_.Go.OpenSpec := { _root_.Go.OpenSpec.ofChange s with cond := some uptoSmall }

/-- 'wainloadlaw10.DigestSums', WHERE WHAT IT READS IS OF BULK AT MOST 1048576: true; the input reads as it did. -/
def digestSumsUptoRow : OpenClaim := { program := "ytfgponalmhocmaa", sum := "710b05317deaaecc268c978ea6e532f6e0c85d19fd913ac869e349345137456b", func := "wainload/wainloadlaw10.DigestSums", spec := "digestSums", apart := false, narrowed := true }
def DigestSumsUptoSaid : Prop := digestSumsUptoRow.holds Try.pinned (OpenSpec.upto digestSumsSpec)

/-- 'wainloadlaw10.DigestPieces', WHERE WHAT IT READS IS OF BULK AT MOST 1048576: true; the input reads as it did. -/
def digestPiecesUptoRow : OpenClaim := { program := "ytfgponalmhocmaa", sum := "710b05317deaaecc268c978ea6e532f6e0c85d19fd913ac869e349345137456b", func := "wainload/wainloadlaw10.DigestPieces", spec := "digestPieces", apart := false, narrowed := true }
def DigestPiecesUptoSaid : Prop := digestPiecesUptoRow.holds Try.pinned (OpenSpec.upto digestPiecesSpec)

/-- 'wainloadlaw10.DigestLong', WHERE WHAT IT READS IS OF BULK AT MOST 1048576: true; the input reads as it did. -/
def digestLongUptoRow : OpenClaim := { program := "ytfgponalmhocmaa", sum := "710b05317deaaecc268c978ea6e532f6e0c85d19fd913ac869e349345137456b", func := "wainload/wainloadlaw10.DigestLong", spec := "digestLong", apart := false, narrowed := true }
def DigestLongUptoSaid : Prop := digestLongUptoRow.holds Try.pinned (OpenSpec.upto digestLongSpec)

/-- 'wainloadlaw10.DigestKeeps', WHERE WHAT IT READS IS OF BULK AT MOST 1048576: true; the input reads as it did. -/
def digestKeepsUptoRow : OpenClaim := { program := "ytfgponalmhocmaa", sum := "710b05317deaaecc268c978ea6e532f6e0c85d19fd913ac869e349345137456b", func := "wainload/wainloadlaw10.DigestKeeps", spec := "digestKeeps", apart := false, narrowed := true }
def DigestKeepsUptoSaid : Prop := digestKeepsUptoRow.holds Try.pinned (OpenSpec.upto digestKeepsSpec)

/-- 'wainloadlaw11.MacSums', WHERE WHAT IT READS IS OF BULK AT MOST 1048576: true; the input reads as it did. -/
def macSumsUptoRow : OpenClaim := { program := "ytfgponalmhocmaa", sum := "710b05317deaaecc268c978ea6e532f6e0c85d19fd913ac869e349345137456b", func := "wainload/wainloadlaw11.MacSums", spec := "macSums", unfollowed := true, recurses := true, apart := false, narrowed := true }
def MacSumsUptoSaid : Prop := macSumsUptoRow.holds Try.pinned (OpenSpec.upto macSumsSpec)

/-- 'wainloadlaw11.MacSame', WHERE WHAT IT READS IS OF BULK AT MOST 1048576: true; the input reads as it did. -/
def macSameUptoRow : OpenClaim := { program := "ytfgponalmhocmaa", sum := "710b05317deaaecc268c978ea6e532f6e0c85d19fd913ac869e349345137456b", func := "wainload/wainloadlaw11.MacSame", spec := "macSame", unfollowed := true, recurses := true, apart := false, narrowed := true }
def MacSameUptoSaid : Prop := macSameUptoRow.holds Try.pinned (OpenSpec.upto macSameSpec)

/-- 'wainloadlaw11.MacKeys', WHERE WHAT IT READS IS OF BULK AT MOST 1048576: true; the input reads as it did. -/
def macKeysUptoRow : OpenClaim := { program := "ytfgponalmhocmaa", sum := "710b05317deaaecc268c978ea6e532f6e0c85d19fd913ac869e349345137456b", func := "wainload/wainloadlaw11.MacKeys", spec := "macKeys", unfollowed := true, recurses := true, apart := false, narrowed := true }
def MacKeysUptoSaid : Prop := macKeysUptoRow.holds Try.pinned (OpenSpec.upto macKeysSpec)

/-- 'wainloadlaw11.MacBegins', WHERE WHAT IT READS IS OF BULK AT MOST 1048576: true; the input reads as it did. -/
def macBeginsUptoRow : OpenClaim := { program := "ytfgponalmhocmaa", sum := "710b05317deaaecc268c978ea6e532f6e0c85d19fd913ac869e349345137456b", func := "wainload/wainloadlaw11.MacBegins", spec := "macBegins", unfollowed := true, recurses := true, apart := false, narrowed := true }
def MacBeginsUptoSaid : Prop := macBeginsUptoRow.holds Try.pinned (OpenSpec.upto macBeginsSpec)

/-- 'wainloadlaw11.MacKeeps', WHERE WHAT IT READS IS OF BULK AT MOST 1048576: true; the input reads as it did. -/
def macKeepsUptoRow : OpenClaim := { program := "ytfgponalmhocmaa", sum := "710b05317deaaecc268c978ea6e532f6e0c85d19fd913ac869e349345137456b", func := "wainload/wainloadlaw11.MacKeeps", spec := "macKeeps", unfollowed := true, recurses := true, apart := false, narrowed := true }
def MacKeepsUptoSaid : Prop := macKeepsUptoRow.holds Try.pinned (OpenSpec.upto macKeepsSpec)

/-- 'wainloadlaw11.MacLong', WHERE WHAT IT READS IS OF BULK AT MOST 1048576: true; the input reads as it did. -/
def macLongUptoRow : OpenClaim := { program := "ytfgponalmhocmaa", sum := "710b05317deaaecc268c978ea6e532f6e0c85d19fd913ac869e349345137456b", func := "wainload/wainloadlaw11.MacLong", spec := "macLong", unfollowed := true, recurses := true, apart := false, narrowed := true }
def MacLongUptoSaid : Prop := macLongUptoRow.holds Try.pinned (OpenSpec.upto macLongSpec)

/-- 'wainloadlaw11.MacOne', WHERE WHAT IT READS IS OF BULK AT MOST 1048576: true; the input reads as it did. -/
def macOneUptoRow : OpenClaim := { program := "ytfgponalmhocmaa", sum := "710b05317deaaecc268c978ea6e532f6e0c85d19fd913ac869e349345137456b", func := "wainload/wainloadlaw11.MacOne", spec := "macOne", unfollowed := true, recurses := true, apart := false, narrowed := true }
def MacOneUptoSaid : Prop := macOneUptoRow.holds Try.pinned (OpenSpec.upto macOneSpec)

end Rows
end Go.Proofs.Ytfgponalmhocmaa
