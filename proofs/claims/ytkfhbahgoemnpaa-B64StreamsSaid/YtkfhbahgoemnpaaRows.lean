/-
  No cell of these rows narrows 'for every input' (looked for: loops, veiled, ifaces, maps, wideKeys, modest, calm, conditions, laid).
  DERIVED. THE GIVEN ROWS OF THIS SEAT. 5 by the template 'for every input the law returns true; each argument reads behind the call as it read before'; 0 by the template 'total and deterministic' (their statements: YtkfhbahgoemnpaaTotals.lean).
  GIVEN WITH THE SEED: the statements are not yours to turn. If you find one false, say at which input.
  Laid BY PROGRAM, IN A SANDBOX (cutbox-rows.mjs): the forced cells as the released guide's own fill.sh prints them over the translation a385cac431af5cf7… (all of the seat's roots in one cut). By AI agents, Wed Nov 11 2026. No macro, syntax, notation, axiom, sorry.
-/
import Derived.Test.YtkfhbahgoemnpaaChecked
import GoSem.Claim
import GoSem.ClaimJoined
import GoSem.ClaimMapViews
import Derived.JoinedTies
import Derived.KernelRfl
namespace Go.Proofs.Ytkfhbahgoemnpaa
/- THE CELL 'sum', in the pinned program and in every row, IS THE sha256 OF THE DUMP (.gsa) THAT YtkfhbahgoemnpaaProg.lean LOADS. Nothing in Lean hashes anything: it is a label: what it is worth is what the hold of that sum in a sandbox is worth. -/
noncomputable def Try.pinned : Pinned := { name := "ytkfhbahgoemnpaa", sum := "a385cac431af5cf7d6970f2500503f561a9f4136bd5b61187a98b484bcd1f0f0", checked := Try.checked }
namespace Rows
def none {H : Type} : Left H := { results := [], args := [] }

/-- 'ostiarylaw03.B64Longer': WHATEVER THE INPUT: true; the input reads as it did. -/
def b64LongerSpec : ChangeSpec := { name := "b64Longer", fn := fun _ => fun
  | [d1, d2] => { results := [.lit (.bool true)], args := [d1, d2] }
  | _ => none }
def b64LongerRow : OpenClaim := { program := "ytkfhbahgoemnpaa", sum := "a385cac431af5cf7d6970f2500503f561a9f4136bd5b61187a98b484bcd1f0f0", func := "ostiary/ostiarylaw03.B64Longer", spec := "b64Longer", inPlace := ["internal/abi.NoEscape", "internal/bytealg.MakeNoZero"], unfollowed := true, recurses := true, apart := false }
def B64LongerSaid : Prop := b64LongerRow.holds Try.pinned (OpenSpec.ofChange b64LongerSpec)

/-- ITS FALSE NEIGHBOUR: 'it returns false'. Refute it at one input. -/
def b64LongerWrong : ChangeSpec := { name := "b64Longer", fn := fun _ => fun
  | [d1, d2] => { results := [.lit (.bool false)], args := [d1, d2] }
  | _ => none }
def B64LongerWrongFalsely : Prop := b64LongerRow.holds Try.pinned (OpenSpec.ofChange b64LongerWrong)

/-- 'ostiarylaw03.B64Streams': WHATEVER THE INPUT: true; the input reads as it did. -/
def b64StreamsSpec : ChangeSpec := { name := "b64Streams", fn := fun _ => fun
  | [d] => { results := [.lit (.bool true)], args := [d] }
  | _ => none }
def b64StreamsRow : OpenClaim := { program := "ytkfhbahgoemnpaa", sum := "a385cac431af5cf7d6970f2500503f561a9f4136bd5b61187a98b484bcd1f0f0", func := "ostiary/ostiarylaw03.B64Streams", spec := "b64Streams", inPlace := ["internal/abi.NoEscape", "internal/bytealg.MakeNoZero"], unfollowed := true, recurses := true, apart := false }
def B64StreamsSaid : Prop := b64StreamsRow.holds Try.pinned (OpenSpec.ofChange b64StreamsSpec)

/-- ITS FALSE NEIGHBOUR: 'it returns false'. Refute it at one input. -/
def b64StreamsWrong : ChangeSpec := { name := "b64Streams", fn := fun _ => fun
  | [d] => { results := [.lit (.bool false)], args := [d] }
  | _ => none }
def B64StreamsWrongFalsely : Prop := b64StreamsRow.holds Try.pinned (OpenSpec.ofChange b64StreamsWrong)

/-- 'ostiarylaw03.B64Encodes': WHATEVER THE INPUT: true; the input reads as it did. -/
def b64EncodesSpec : ChangeSpec := { name := "b64Encodes", fn := fun _ => fun
  | [d] => { results := [.lit (.bool true)], args := [d] }
  | _ => none }
def b64EncodesRow : OpenClaim := { program := "ytkfhbahgoemnpaa", sum := "a385cac431af5cf7d6970f2500503f561a9f4136bd5b61187a98b484bcd1f0f0", func := "ostiary/ostiarylaw03.B64Encodes", spec := "b64Encodes", inPlace := ["internal/abi.NoEscape", "internal/bytealg.MakeNoZero", "internal/bytealg.IndexByteString"], unfollowed := true, recurses := true, apart := false }
def B64EncodesSaid : Prop := b64EncodesRow.holds Try.pinned (OpenSpec.ofChange b64EncodesSpec)

/-- ITS FALSE NEIGHBOUR: 'it returns false'. Refute it at one input. -/
def b64EncodesWrong : ChangeSpec := { name := "b64Encodes", fn := fun _ => fun
  | [d] => { results := [.lit (.bool false)], args := [d] }
  | _ => none }
def B64EncodesWrongFalsely : Prop := b64EncodesRow.holds Try.pinned (OpenSpec.ofChange b64EncodesWrong)

/-- 'ostiarylaw03.B64Decodes': WHATEVER THE INPUT: true; the input reads as it did. -/
def b64DecodesSpec : ChangeSpec := { name := "b64Decodes", fn := fun _ => fun
  | [d] => { results := [.lit (.bool true)], args := [d] }
  | _ => none }
def b64DecodesRow : OpenClaim := { program := "ytkfhbahgoemnpaa", sum := "a385cac431af5cf7d6970f2500503f561a9f4136bd5b61187a98b484bcd1f0f0", func := "ostiary/ostiarylaw03.B64Decodes", spec := "b64Decodes", inPlace := ["internal/abi.NoEscape", "internal/bytealg.MakeNoZero", "internal/bytealg.IndexByteString"], unfollowed := true, recurses := true, apart := false }
def B64DecodesSaid : Prop := b64DecodesRow.holds Try.pinned (OpenSpec.ofChange b64DecodesSpec)

/-- ITS FALSE NEIGHBOUR: 'it returns false'. Refute it at one input. -/
def b64DecodesWrong : ChangeSpec := { name := "b64Decodes", fn := fun _ => fun
  | [d] => { results := [.lit (.bool false)], args := [d] }
  | _ => none }
def B64DecodesWrongFalsely : Prop := b64DecodesRow.holds Try.pinned (OpenSpec.ofChange b64DecodesWrong)

/-- 'ostiarylaw03.B64Groups': WHATEVER THE INPUT: true; the input reads as it did. -/
def b64GroupsSpec : ChangeSpec := { name := "b64Groups", fn := fun _ => fun
  | [d1, d2, d3] => { results := [.lit (.bool true)], args := [d1, d2, d3] }
  | _ => none }
def b64GroupsRow : OpenClaim := { program := "ytkfhbahgoemnpaa", sum := "a385cac431af5cf7d6970f2500503f561a9f4136bd5b61187a98b484bcd1f0f0", func := "ostiary/ostiarylaw03.B64Groups", spec := "b64Groups", inPlace := ["internal/abi.NoEscape", "internal/bytealg.MakeNoZero"], unfollowed := true, recurses := true, apart := false }
def B64GroupsSaid : Prop := b64GroupsRow.holds Try.pinned (OpenSpec.ofChange b64GroupsSpec)

/-- ITS FALSE NEIGHBOUR: 'it returns false'. Refute it at one input. -/
def b64GroupsWrong : ChangeSpec := { name := "b64Groups", fn := fun _ => fun
  | [d1, d2, d3] => { results := [.lit (.bool false)], args := [d1, d2, d3] }
  | _ => none }
def B64GroupsWrongFalsely : Prop := b64GroupsRow.holds Try.pinned (OpenSpec.ofChange b64GroupsWrong)

/- THE SECOND FORM. 'bulk': how many values and letters a reading holds, each counted each time it is reached (what is shared counts as often as it is met; a slice's spare places count too). A statement '..UptoSaid' is the law's where the arguments, and the package variables that the reading takes, are together of bulk at most 1048576: NARROWER than '..Said'. Prove '..Said' where nothing that the law and all that it calls make is longer than what came in: it says more and counts as full. Else prove '..UptoSaid'. A law counts once. -/
mutual
def uptoBulk {H : Type} : DataW H → Nat
  | .lit (.string bytes) => bytes.length + 1
  | .lit _ => 1
  | .nil => 1
  | .ptr d => uptoBulk d + 1
  | .slice elems spare => uptoBulkAll elems + uptoBulkAll spare + 1
  | .agg parts => uptoBulkAll parts + 1
  | .iface _ d => uptoBulk d + 1
  | .map entries => uptoBulkEntries entries + 1
  | .held _ => 1
def uptoBulkAll {H : Type} : List (DataW H) → Nat
  | [] => 0
  | d :: r => uptoBulk d + uptoBulkAll r
def uptoBulkEntries {H : Type} : List (Lit × DataW H) → Nat
  | [] => 0
  | x :: r => uptoBulkEntry x + uptoBulkEntries r
def uptoBulkEntry {H : Type} : Lit × DataW H → Nat
  | (.string bytes, d) => bytes.length + uptoBulk d + 1
  | (_, d) => uptoBulk d + 1
 end
def uptoSmall : (H : Type) → List (DataW H) → Bool := fun _ ds => decide (uptoBulkAll ds ≤ 1048576)
def OpenSpec.upto (s : _root_.Go.ChangeSpec) : _root_.Go.OpenSpec := { _root_.Go.OpenSpec.ofChange s with cond := some uptoSmall }

/-- 'ostiarylaw03.B64Longer', WHERE WHAT IT READS IS OF BULK AT MOST 1048576: true; the input reads as it did. -/
def b64LongerUptoRow : OpenClaim := { program := "ytkfhbahgoemnpaa", sum := "a385cac431af5cf7d6970f2500503f561a9f4136bd5b61187a98b484bcd1f0f0", func := "ostiary/ostiarylaw03.B64Longer", spec := "b64Longer", inPlace := ["internal/abi.NoEscape", "internal/bytealg.MakeNoZero"], unfollowed := true, recurses := true, apart := false, narrowed := true }
def B64LongerUptoSaid : Prop := b64LongerUptoRow.holds Try.pinned (OpenSpec.upto b64LongerSpec)

/-- 'ostiarylaw03.B64Streams', WHERE WHAT IT READS IS OF BULK AT MOST 1048576: true; the input reads as it did. -/
def b64StreamsUptoRow : OpenClaim := { program := "ytkfhbahgoemnpaa", sum := "a385cac431af5cf7d6970f2500503f561a9f4136bd5b61187a98b484bcd1f0f0", func := "ostiary/ostiarylaw03.B64Streams", spec := "b64Streams", inPlace := ["internal/abi.NoEscape", "internal/bytealg.MakeNoZero"], unfollowed := true, recurses := true, apart := false, narrowed := true }
def B64StreamsUptoSaid : Prop := b64StreamsUptoRow.holds Try.pinned (OpenSpec.upto b64StreamsSpec)

/-- 'ostiarylaw03.B64Encodes', WHERE WHAT IT READS IS OF BULK AT MOST 1048576: true; the input reads as it did. -/
def b64EncodesUptoRow : OpenClaim := { program := "ytkfhbahgoemnpaa", sum := "a385cac431af5cf7d6970f2500503f561a9f4136bd5b61187a98b484bcd1f0f0", func := "ostiary/ostiarylaw03.B64Encodes", spec := "b64Encodes", inPlace := ["internal/abi.NoEscape", "internal/bytealg.MakeNoZero", "internal/bytealg.IndexByteString"], unfollowed := true, recurses := true, apart := false, narrowed := true }
def B64EncodesUptoSaid : Prop := b64EncodesUptoRow.holds Try.pinned (OpenSpec.upto b64EncodesSpec)

/-- 'ostiarylaw03.B64Decodes', WHERE WHAT IT READS IS OF BULK AT MOST 1048576: true; the input reads as it did. -/
def b64DecodesUptoRow : OpenClaim := { program := "ytkfhbahgoemnpaa", sum := "a385cac431af5cf7d6970f2500503f561a9f4136bd5b61187a98b484bcd1f0f0", func := "ostiary/ostiarylaw03.B64Decodes", spec := "b64Decodes", inPlace := ["internal/abi.NoEscape", "internal/bytealg.MakeNoZero", "internal/bytealg.IndexByteString"], unfollowed := true, recurses := true, apart := false, narrowed := true }
def B64DecodesUptoSaid : Prop := b64DecodesUptoRow.holds Try.pinned (OpenSpec.upto b64DecodesSpec)

/-- 'ostiarylaw03.B64Groups', WHERE WHAT IT READS IS OF BULK AT MOST 1048576: true; the input reads as it did. -/
def b64GroupsUptoRow : OpenClaim := { program := "ytkfhbahgoemnpaa", sum := "a385cac431af5cf7d6970f2500503f561a9f4136bd5b61187a98b484bcd1f0f0", func := "ostiary/ostiarylaw03.B64Groups", spec := "b64Groups", inPlace := ["internal/abi.NoEscape", "internal/bytealg.MakeNoZero"], unfollowed := true, recurses := true, apart := false, narrowed := true }
def B64GroupsUptoSaid : Prop := b64GroupsUptoRow.holds Try.pinned (OpenSpec.upto b64GroupsSpec)

end Rows
end Go.Proofs.Ytkfhbahgoemnpaa
