/-
  No cell of these rows narrows 'for every input' (looked for: loops, veiled, ifaces, maps, wideKeys, modest, calm, conditions, laid).
  DERIVED. THE GIVEN ROWS OF THIS SEAT. 8 by the template 'for every input the law returns true; each argument reads behind the call as it read before'; 0 by the template 'total and deterministic' (their statements: YtjhcbggpbfejgaaTotals.lean).
  GIVEN WITH THE SEED: the statements are not yours to turn. If you find one false, say at which input.
  Laid BY PROGRAM, IN A SANDBOX (cutbox-rows.mjs): the forced cells as the released guide's own fill.sh prints them over the translation 444f3c2799f8d930… (all of the seat's roots in one cut). By AI agents, Wed Nov 11 2026. No macro, syntax, notation, axiom, sorry.
-/
import Derived.Test.YtjhcbggpbfejgaaChecked
import GoSem.Claim
import GoSem.ClaimJoined
import GoSem.ClaimMapViews
import Derived.JoinedTies
import Derived.KernelRfl
namespace Go.Proofs.Ytjhcbggpbfejgaa
/- THE CELL 'sum', in the pinned program and in every row, IS THE sha256 OF THE DUMP (.gsa) THAT YtjhcbggpbfejgaaProg.lean LOADS. Nothing in Lean hashes anything: it is a label: what it is worth is what the hold of that sum in a sandbox is worth. -/
noncomputable def Try.pinned : Pinned := { name := "ytjhcbggpbfejgaa", sum := "444f3c2799f8d9305d07485c9b0b7d15556d3a0f8e545c8dd295515e1648e140", checked := Try.checked }
namespace Rows
def none {H : Type} : Left H := { results := [], args := [] }

/-- 'calepinlaw15.CodecCuts': WHATEVER THE INPUT: true; the input reads as it did. -/
def codecCutsSpec : ChangeSpec := { name := "codecCuts", fn := fun _ => fun
  | [d1, d2] => { results := [.lit (.bool true)], args := [d1, d2] }
  | _ => none }
def codecCutsRow : OpenClaim := { program := "ytjhcbggpbfejgaa", sum := "444f3c2799f8d9305d07485c9b0b7d15556d3a0f8e545c8dd295515e1648e140", func := "calepin/calepinlaw15.CodecCuts", spec := "codecCuts", unfollowed := true, recurses := true, apart := false }
def CodecCutsSaid : Prop := codecCutsRow.holds Try.pinned (OpenSpec.ofChange codecCutsSpec)

/-- ITS FALSE NEIGHBOUR: 'it returns false'. Refute it at one input. -/
def codecCutsWrong : ChangeSpec := { name := "codecCuts", fn := fun _ => fun
  | [d1, d2] => { results := [.lit (.bool false)], args := [d1, d2] }
  | _ => none }
def CodecCutsWrongFalsely : Prop := codecCutsRow.holds Try.pinned (OpenSpec.ofChange codecCutsWrong)

/-- 'calepinlaw15.CodecApart': WHATEVER THE INPUT: true; the input reads as it did. -/
def codecApartSpec : ChangeSpec := { name := "codecApart", fn := fun _ => fun
  | [d1, d2, d3] => { results := [.lit (.bool true)], args := [d1, d2, d3] }
  | _ => none }
def codecApartRow : OpenClaim := { program := "ytjhcbggpbfejgaa", sum := "444f3c2799f8d9305d07485c9b0b7d15556d3a0f8e545c8dd295515e1648e140", func := "calepin/calepinlaw15.CodecApart", spec := "codecApart", unfollowed := true, recurses := true, apart := false }
def CodecApartSaid : Prop := codecApartRow.holds Try.pinned (OpenSpec.ofChange codecApartSpec)

/-- ITS FALSE NEIGHBOUR: 'it returns false'. Refute it at one input. -/
def codecApartWrong : ChangeSpec := { name := "codecApart", fn := fun _ => fun
  | [d1, d2, d3] => { results := [.lit (.bool false)], args := [d1, d2, d3] }
  | _ => none }
def CodecApartWrongFalsely : Prop := codecApartRow.holds Try.pinned (OpenSpec.ofChange codecApartWrong)

/-- 'calepinlaw15.CodecGets': WHATEVER THE INPUT: true; the input reads as it did. -/
def codecGetsSpec : ChangeSpec := { name := "codecGets", fn := fun _ => fun
  | [d] => { results := [.lit (.bool true)], args := [d] }
  | _ => none }
def codecGetsRow : OpenClaim := { program := "ytjhcbggpbfejgaa", sum := "444f3c2799f8d9305d07485c9b0b7d15556d3a0f8e545c8dd295515e1648e140", func := "calepin/calepinlaw15.CodecGets", spec := "codecGets", unfollowed := true, recurses := true, apart := false }
def CodecGetsSaid : Prop := codecGetsRow.holds Try.pinned (OpenSpec.ofChange codecGetsSpec)

/-- ITS FALSE NEIGHBOUR: 'it returns false'. Refute it at one input. -/
def codecGetsWrong : ChangeSpec := { name := "codecGets", fn := fun _ => fun
  | [d] => { results := [.lit (.bool false)], args := [d] }
  | _ => none }
def CodecGetsWrongFalsely : Prop := codecGetsRow.holds Try.pinned (OpenSpec.ofChange codecGetsWrong)

/-- 'calepinlaw15.CodecPuts': WHATEVER THE INPUT: true; the input reads as it did. -/
def codecPutsSpec : ChangeSpec := { name := "codecPuts", fn := fun _ => fun
  | [d1, d2] => { results := [.lit (.bool true)], args := [d1, d2] }
  | _ => none }
def codecPutsRow : OpenClaim := { program := "ytjhcbggpbfejgaa", sum := "444f3c2799f8d9305d07485c9b0b7d15556d3a0f8e545c8dd295515e1648e140", func := "calepin/calepinlaw15.CodecPuts", spec := "codecPuts", unfollowed := true, recurses := true, apart := false }
def CodecPutsSaid : Prop := codecPutsRow.holds Try.pinned (OpenSpec.ofChange codecPutsSpec)

/-- ITS FALSE NEIGHBOUR: 'it returns false'. Refute it at one input. -/
def codecPutsWrong : ChangeSpec := { name := "codecPuts", fn := fun _ => fun
  | [d1, d2] => { results := [.lit (.bool false)], args := [d1, d2] }
  | _ => none }
def CodecPutsWrongFalsely : Prop := codecPutsRow.holds Try.pinned (OpenSpec.ofChange codecPutsWrong)

/-- 'calepinlaw22.MsgPuts': WHATEVER THE INPUT: true; the input reads as it did. -/
def msgPutsSpec : ChangeSpec := { name := "msgPuts", fn := fun _ => fun
  | [d] => { results := [.lit (.bool true)], args := [d] }
  | _ => none }
def msgPutsRow : OpenClaim := { program := "ytjhcbggpbfejgaa", sum := "444f3c2799f8d9305d07485c9b0b7d15556d3a0f8e545c8dd295515e1648e140", func := "calepin/calepinlaw22.MsgPuts", spec := "msgPuts", unfollowed := true, recurses := true, apart := false }
def MsgPutsSaid : Prop := msgPutsRow.holds Try.pinned (OpenSpec.ofChange msgPutsSpec)

/-- ITS FALSE NEIGHBOUR: 'it returns false'. Refute it at one input. -/
def msgPutsWrong : ChangeSpec := { name := "msgPuts", fn := fun _ => fun
  | [d] => { results := [.lit (.bool false)], args := [d] }
  | _ => none }
def MsgPutsWrongFalsely : Prop := msgPutsRow.holds Try.pinned (OpenSpec.ofChange msgPutsWrong)

/-- 'calepinlaw22.MsgGets': WHATEVER THE INPUT: true; the input reads as it did. -/
def msgGetsSpec : ChangeSpec := { name := "msgGets", fn := fun _ => fun
  | [d] => { results := [.lit (.bool true)], args := [d] }
  | _ => none }
def msgGetsRow : OpenClaim := { program := "ytjhcbggpbfejgaa", sum := "444f3c2799f8d9305d07485c9b0b7d15556d3a0f8e545c8dd295515e1648e140", func := "calepin/calepinlaw22.MsgGets", spec := "msgGets", unfollowed := true, recurses := true, apart := false }
def MsgGetsSaid : Prop := msgGetsRow.holds Try.pinned (OpenSpec.ofChange msgGetsSpec)

/-- ITS FALSE NEIGHBOUR: 'it returns false'. Refute it at one input. -/
def msgGetsWrong : ChangeSpec := { name := "msgGets", fn := fun _ => fun
  | [d] => { results := [.lit (.bool false)], args := [d] }
  | _ => none }
def MsgGetsWrongFalsely : Prop := msgGetsRow.holds Try.pinned (OpenSpec.ofChange msgGetsWrong)

/-- 'calepinlaw22.MsgCuts': WHATEVER THE INPUT: true; the input reads as it did. -/
def msgCutsSpec : ChangeSpec := { name := "msgCuts", fn := fun _ => fun
  | [d1, d2] => { results := [.lit (.bool true)], args := [d1, d2] }
  | _ => none }
def msgCutsRow : OpenClaim := { program := "ytjhcbggpbfejgaa", sum := "444f3c2799f8d9305d07485c9b0b7d15556d3a0f8e545c8dd295515e1648e140", func := "calepin/calepinlaw22.MsgCuts", spec := "msgCuts", unfollowed := true, recurses := true, apart := false }
def MsgCutsSaid : Prop := msgCutsRow.holds Try.pinned (OpenSpec.ofChange msgCutsSpec)

/-- ITS FALSE NEIGHBOUR: 'it returns false'. Refute it at one input. -/
def msgCutsWrong : ChangeSpec := { name := "msgCuts", fn := fun _ => fun
  | [d1, d2] => { results := [.lit (.bool false)], args := [d1, d2] }
  | _ => none }
def MsgCutsWrongFalsely : Prop := msgCutsRow.holds Try.pinned (OpenSpec.ofChange msgCutsWrong)

/-- 'calepinlaw22.MsgApart': WHATEVER THE INPUT: true; the input reads as it did. -/
def msgApartSpec : ChangeSpec := { name := "msgApart", fn := fun _ => fun
  | [d1, d2, d3] => { results := [.lit (.bool true)], args := [d1, d2, d3] }
  | _ => none }
def msgApartRow : OpenClaim := { program := "ytjhcbggpbfejgaa", sum := "444f3c2799f8d9305d07485c9b0b7d15556d3a0f8e545c8dd295515e1648e140", func := "calepin/calepinlaw22.MsgApart", spec := "msgApart", unfollowed := true, recurses := true, apart := false }
def MsgApartSaid : Prop := msgApartRow.holds Try.pinned (OpenSpec.ofChange msgApartSpec)

/-- ITS FALSE NEIGHBOUR: 'it returns false'. Refute it at one input. -/
def msgApartWrong : ChangeSpec := { name := "msgApart", fn := fun _ => fun
  | [d1, d2, d3] => { results := [.lit (.bool false)], args := [d1, d2, d3] }
  | _ => none }
def MsgApartWrongFalsely : Prop := msgApartRow.holds Try.pinned (OpenSpec.ofChange msgApartWrong)

/- THE SECOND FORM. 'bulk': how many values and letters a reading holds, each counted each time it is reached (what is shared counts as often as it is met; a slice's spare places count too). A statement '..UptoSaid' is the law's where the arguments, and the package variables that the reading takes, are together of bulk at most 1048576: NARROWER than '..Said'. Prove '..Said' where nothing that the law and all that it calls make is longer than what came in: it says more and counts as full. Else prove '..UptoSaid'. A law counts once. -/
mutual
def uptoBulk {H : Type} : DataW H → Nat
  | .lit (.string bytes) => bytes.length + 1
  | .lit _ => 1
  | .nil => 1
  | .ptr d => uptoBulk d + 1
  | .slice elems spare => uptoBulkAll elems + uptoBulkAll spare + 1
  | .agg parts => uptoBulkAll parts + 1
  | .iface _ d => uptoBulk d + 1
  | .map entries => uptoBulkEntries entries + 1
  | .held _ => 1
def uptoBulkAll {H : Type} : List (DataW H) → Nat
  | [] => 0
  | d :: r => uptoBulk d + uptoBulkAll r
def uptoBulkEntries {H : Type} : List (Lit × DataW H) → Nat
  | [] => 0
  | x :: r => uptoBulkEntry x + uptoBulkEntries r
def uptoBulkEntry {H : Type} : Lit × DataW H → Nat
  | (.string bytes, d) => bytes.length + uptoBulk d + 1
  | (_, d) => uptoBulk d + 1
 end
def uptoSmall : (H : Type) → List (DataW H) → Bool := fun _ ds => decide (uptoBulkAll ds ≤ 1048576)
def OpenSpec.upto (s : _root_.Go.ChangeSpec) : _root_.Go.OpenSpec := { _root_.Go.OpenSpec.ofChange s with cond := some uptoSmall }

/-- 'calepinlaw15.CodecCuts', WHERE WHAT IT READS IS OF BULK AT MOST 1048576: true; the input reads as it did. -/
def codecCutsUptoRow : OpenClaim := { program := "ytjhcbggpbfejgaa", sum := "444f3c2799f8d9305d07485c9b0b7d15556d3a0f8e545c8dd295515e1648e140", func := "calepin/calepinlaw15.CodecCuts", spec := "codecCuts", unfollowed := true, recurses := true, apart := false, narrowed := true }
def CodecCutsUptoSaid : Prop := codecCutsUptoRow.holds Try.pinned (OpenSpec.upto codecCutsSpec)

/-- 'calepinlaw15.CodecApart', WHERE WHAT IT READS IS OF BULK AT MOST 1048576: true; the input reads as it did. -/
def codecApartUptoRow : OpenClaim := { program := "ytjhcbggpbfejgaa", sum := "444f3c2799f8d9305d07485c9b0b7d15556d3a0f8e545c8dd295515e1648e140", func := "calepin/calepinlaw15.CodecApart", spec := "codecApart", unfollowed := true, recurses := true, apart := false, narrowed := true }
def CodecApartUptoSaid : Prop := codecApartUptoRow.holds Try.pinned (OpenSpec.upto codecApartSpec)

/-- 'calepinlaw15.CodecGets', WHERE WHAT IT READS IS OF BULK AT MOST 1048576: true; the input reads as it did. -/
def codecGetsUptoRow : OpenClaim := { program := "ytjhcbggpbfejgaa", sum := "444f3c2799f8d9305d07485c9b0b7d15556d3a0f8e545c8dd295515e1648e140", func := "calepin/calepinlaw15.CodecGets", spec := "codecGets", unfollowed := true, recurses := true, apart := false, narrowed := true }
def CodecGetsUptoSaid : Prop := codecGetsUptoRow.holds Try.pinned (OpenSpec.upto codecGetsSpec)

/-- 'calepinlaw15.CodecPuts', WHERE WHAT IT READS IS OF BULK AT MOST 1048576: true; the input reads as it did. -/
def codecPutsUptoRow : OpenClaim := { program := "ytjhcbggpbfejgaa", sum := "444f3c2799f8d9305d07485c9b0b7d15556d3a0f8e545c8dd295515e1648e140", func := "calepin/calepinlaw15.CodecPuts", spec := "codecPuts", unfollowed := true, recurses := true, apart := false, narrowed := true }
def CodecPutsUptoSaid : Prop := codecPutsUptoRow.holds Try.pinned (OpenSpec.upto codecPutsSpec)

/-- 'calepinlaw22.MsgPuts', WHERE WHAT IT READS IS OF BULK AT MOST 1048576: true; the input reads as it did. -/
def msgPutsUptoRow : OpenClaim := { program := "ytjhcbggpbfejgaa", sum := "444f3c2799f8d9305d07485c9b0b7d15556d3a0f8e545c8dd295515e1648e140", func := "calepin/calepinlaw22.MsgPuts", spec := "msgPuts", unfollowed := true, recurses := true, apart := false, narrowed := true }
def MsgPutsUptoSaid : Prop := msgPutsUptoRow.holds Try.pinned (OpenSpec.upto msgPutsSpec)

/-- 'calepinlaw22.MsgGets', WHERE WHAT IT READS IS OF BULK AT MOST 1048576: true; the input reads as it did. -/
def msgGetsUptoRow : OpenClaim := { program := "ytjhcbggpbfejgaa", sum := "444f3c2799f8d9305d07485c9b0b7d15556d3a0f8e545c8dd295515e1648e140", func := "calepin/calepinlaw22.MsgGets", spec := "msgGets", unfollowed := true, recurses := true, apart := false, narrowed := true }
def MsgGetsUptoSaid : Prop := msgGetsUptoRow.holds Try.pinned (OpenSpec.upto msgGetsSpec)

/-- 'calepinlaw22.MsgCuts', WHERE WHAT IT READS IS OF BULK AT MOST 1048576: true; the input reads as it did. -/
def msgCutsUptoRow : OpenClaim := { program := "ytjhcbggpbfejgaa", sum := "444f3c2799f8d9305d07485c9b0b7d15556d3a0f8e545c8dd295515e1648e140", func := "calepin/calepinlaw22.MsgCuts", spec := "msgCuts", unfollowed := true, recurses := true, apart := false, narrowed := true }
def MsgCutsUptoSaid : Prop := msgCutsUptoRow.holds Try.pinned (OpenSpec.upto msgCutsSpec)

/-- 'calepinlaw22.MsgApart', WHERE WHAT IT READS IS OF BULK AT MOST 1048576: true; the input reads as it did. -/
def msgApartUptoRow : OpenClaim := { program := "ytjhcbggpbfejgaa", sum := "444f3c2799f8d9305d07485c9b0b7d15556d3a0f8e545c8dd295515e1648e140", func := "calepin/calepinlaw22.MsgApart", spec := "msgApart", unfollowed := true, recurses := true, apart := false, narrowed := true }
def MsgApartUptoSaid : Prop := msgApartUptoRow.holds Try.pinned (OpenSpec.upto msgApartSpec)

end Rows
end Go.Proofs.Ytjhcbggpbfejgaa
