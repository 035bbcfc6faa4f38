/-
  No cell of these rows narrows 'for every input' (looked for: loops, veiled, ifaces, maps, wideKeys, modest, calm, conditions, laid).
  DERIVED. THE GIVEN ROWS OF THIS SEAT. 8 by the template 'for every input the law returns true; each argument reads behind the call as it read before'; 0 by the template 'total and deterministic' (their statements: YtcpdfhkhaekekaaGreatTotals.lean).
  GIVEN WITH THE SEED: the statements are not yours to turn. If you find one false, say at which input.
  Laid BY PROGRAM, IN A SANDBOX (cutbox-rows.mjs): the forced cells as the released guide's own fill.sh prints them over the translation 90212cfa891ef5de… (all of the seat's roots in one cut). By AI agents, Wed Nov 11 2026. No macro, syntax, notation, axiom, sorry.
-/
import Derived.Test.YtcpdfhkhaekekaaGreatChecked
import GoSem.Claim
import GoSem.ClaimJoined
import GoSem.ClaimMapViews
import Derived.JoinedTies
import Derived.KernelRfl
namespace Go.Proofs.YtcpdfhkhaekekaaGreat
/- THE CELL 'sum', in the pinned program and in every row, IS THE sha256 OF THE DUMP (.gsa) THAT YtcpdfhkhaekekaaGreatProg.lean LOADS. Nothing in Lean hashes anything: it is a label: what it is worth is what the hold of that sum in a sandbox is worth. -/
noncomputable def Tryz.pinned : Pinned := { name := "ytcpdfhkhaekekaagreat", sum := "90212cfa891ef5de91997106fd11e3694c3d2eca1a3622bc58c2082b0fc0a0e4", checked := Tryz.checked }
namespace Rows
def none {H : Type} : Left H := { results := [], args := [] }

/-- 'stopcocktop.WholeReads': WHATEVER THE INPUT: true; the input reads as it did. -/
def wholeReadsSpec : ChangeSpec := { name := "wholeReads", fn := fun _ => fun
  | [d1, d2, d3] => { results := [.lit (.bool true)], args := [d1, d2, d3] }
  | _ => none }
def wholeReadsRow : OpenClaim := { program := "ytcpdfhkhaekekaagreat", sum := "90212cfa891ef5de91997106fd11e3694c3d2eca1a3622bc58c2082b0fc0a0e4", func := "stopcock/stopcocktop.WholeReads", spec := "wholeReads", inPlace := ["slices.overlaps[int]"], unfollowed := true, recurses := true, apart := false }
def WholeReadsSaid : Prop := wholeReadsRow.holds Tryz.pinned (OpenSpec.ofChange wholeReadsSpec)

/-- ITS FALSE NEIGHBOUR: 'it returns false'. Refute it at one input. -/
def wholeReadsWrong : ChangeSpec := { name := "wholeReads", fn := fun _ => fun
  | [d1, d2, d3] => { results := [.lit (.bool false)], args := [d1, d2, d3] }
  | _ => none }
def WholeReadsWrongFalsely : Prop := wholeReadsRow.holds Tryz.pinned (OpenSpec.ofChange wholeReadsWrong)

/-- 'stopcocktop.WholeSnaps': WHATEVER THE INPUT: true; the input reads as it did. -/
def wholeSnapsSpec : ChangeSpec := { name := "wholeSnaps", fn := fun _ => fun
  | [d1, d2, d3, d4] => { results := [.lit (.bool true)], args := [d1, d2, d3, d4] }
  | _ => none }
def wholeSnapsRow : OpenClaim := { program := "ytcpdfhkhaekekaagreat", sum := "90212cfa891ef5de91997106fd11e3694c3d2eca1a3622bc58c2082b0fc0a0e4", func := "stopcock/stopcocktop.WholeSnaps", spec := "wholeSnaps", inPlace := ["slices.overlaps[int]"], unfollowed := true, recurses := true, apart := false }
def WholeSnapsSaid : Prop := wholeSnapsRow.holds Tryz.pinned (OpenSpec.ofChange wholeSnapsSpec)

/-- ITS FALSE NEIGHBOUR: 'it returns false'. Refute it at one input. -/
def wholeSnapsWrong : ChangeSpec := { name := "wholeSnaps", fn := fun _ => fun
  | [d1, d2, d3, d4] => { results := [.lit (.bool false)], args := [d1, d2, d3, d4] }
  | _ => none }
def WholeSnapsWrongFalsely : Prop := wholeSnapsRow.holds Tryz.pinned (OpenSpec.ofChange wholeSnapsWrong)

/-- 'stopcocktop.WholeShares': WHATEVER THE INPUT: true; the input reads as it did. -/
def wholeSharesSpec : ChangeSpec := { name := "wholeShares", fn := fun _ => fun
  | [d1, d2, d3, d4] => { results := [.lit (.bool true)], args := [d1, d2, d3, d4] }
  | _ => none }
def wholeSharesRow : OpenClaim := { program := "ytcpdfhkhaekekaagreat", sum := "90212cfa891ef5de91997106fd11e3694c3d2eca1a3622bc58c2082b0fc0a0e4", func := "stopcock/stopcocktop.WholeShares", spec := "wholeShares", inPlace := ["slices.overlaps[int]"], unfollowed := true, recurses := true, apart := false }
def WholeSharesSaid : Prop := wholeSharesRow.holds Tryz.pinned (OpenSpec.ofChange wholeSharesSpec)

/-- ITS FALSE NEIGHBOUR: 'it returns false'. Refute it at one input. -/
def wholeSharesWrong : ChangeSpec := { name := "wholeShares", fn := fun _ => fun
  | [d1, d2, d3, d4] => { results := [.lit (.bool false)], args := [d1, d2, d3, d4] }
  | _ => none }
def WholeSharesWrongFalsely : Prop := wholeSharesRow.holds Tryz.pinned (OpenSpec.ofChange wholeSharesWrong)

/-- 'stopcocktop.WholeOrder': WHATEVER THE INPUT: true; the input reads as it did. -/
def wholeOrderSpec : ChangeSpec := { name := "wholeOrder", fn := fun _ => fun
  | [d1, d2, d3, d4] => { results := [.lit (.bool true)], args := [d1, d2, d3, d4] }
  | _ => none }
def wholeOrderRow : OpenClaim := { program := "ytcpdfhkhaekekaagreat", sum := "90212cfa891ef5de91997106fd11e3694c3d2eca1a3622bc58c2082b0fc0a0e4", func := "stopcock/stopcocktop.WholeOrder", spec := "wholeOrder", inPlace := ["slices.overlaps[int]"], unfollowed := true, recurses := true, apart := false }
def WholeOrderSaid : Prop := wholeOrderRow.holds Tryz.pinned (OpenSpec.ofChange wholeOrderSpec)

/-- ITS FALSE NEIGHBOUR: 'it returns false'. Refute it at one input. -/
def wholeOrderWrong : ChangeSpec := { name := "wholeOrder", fn := fun _ => fun
  | [d1, d2, d3, d4] => { results := [.lit (.bool false)], args := [d1, d2, d3, d4] }
  | _ => none }
def WholeOrderWrongFalsely : Prop := wholeOrderRow.holds Tryz.pinned (OpenSpec.ofChange wholeOrderWrong)

/-- 'stopcocktop.WholeTwo': WHATEVER THE INPUT: true; the input reads as it did. -/
def wholeTwoSpec : ChangeSpec := { name := "wholeTwo", fn := fun _ => fun
  | [d1, d2, d3] => { results := [.lit (.bool true)], args := [d1, d2, d3] }
  | _ => none }
def wholeTwoRow : OpenClaim := { program := "ytcpdfhkhaekekaagreat", sum := "90212cfa891ef5de91997106fd11e3694c3d2eca1a3622bc58c2082b0fc0a0e4", func := "stopcock/stopcocktop.WholeTwo", spec := "wholeTwo", inPlace := ["slices.overlaps[int]"], unfollowed := true, recurses := true, apart := false }
def WholeTwoSaid : Prop := wholeTwoRow.holds Tryz.pinned (OpenSpec.ofChange wholeTwoSpec)

/-- ITS FALSE NEIGHBOUR: 'it returns false'. Refute it at one input. -/
def wholeTwoWrong : ChangeSpec := { name := "wholeTwo", fn := fun _ => fun
  | [d1, d2, d3] => { results := [.lit (.bool false)], args := [d1, d2, d3] }
  | _ => none }
def WholeTwoWrongFalsely : Prop := wholeTwoRow.holds Tryz.pinned (OpenSpec.ofChange wholeTwoWrong)

/-- 'stopcocktop.WholeNew': WHATEVER THE INPUT: true; the input reads as it did. -/
def wholeNewSpec : ChangeSpec := { name := "wholeNew", fn := fun _ => fun
  | [d1, d2, d3, d4] => { results := [.lit (.bool true)], args := [d1, d2, d3, d4] }
  | _ => none }
def wholeNewRow : OpenClaim := { program := "ytcpdfhkhaekekaagreat", sum := "90212cfa891ef5de91997106fd11e3694c3d2eca1a3622bc58c2082b0fc0a0e4", func := "stopcock/stopcocktop.WholeNew", spec := "wholeNew", inPlace := ["slices.overlaps[int]"], unfollowed := true, recurses := true, apart := false }
def WholeNewSaid : Prop := wholeNewRow.holds Tryz.pinned (OpenSpec.ofChange wholeNewSpec)

/-- ITS FALSE NEIGHBOUR: 'it returns false'. Refute it at one input. -/
def wholeNewWrong : ChangeSpec := { name := "wholeNew", fn := fun _ => fun
  | [d1, d2, d3, d4] => { results := [.lit (.bool false)], args := [d1, d2, d3, d4] }
  | _ => none }
def WholeNewWrongFalsely : Prop := wholeNewRow.holds Tryz.pinned (OpenSpec.ofChange wholeNewWrong)

/-- 'stopcocktop.WholeQueue': WHATEVER THE INPUT: true; the input reads as it did. -/
def wholeQueueSpec : ChangeSpec := { name := "wholeQueue", fn := fun _ => fun
  | [d1, d2, d3] => { results := [.lit (.bool true)], args := [d1, d2, d3] }
  | _ => none }
def wholeQueueRow : OpenClaim := { program := "ytcpdfhkhaekekaagreat", sum := "90212cfa891ef5de91997106fd11e3694c3d2eca1a3622bc58c2082b0fc0a0e4", func := "stopcock/stopcocktop.WholeQueue", spec := "wholeQueue", inPlace := ["slices.overlaps[int]"], unfollowed := true, recurses := true, apart := false }
def WholeQueueSaid : Prop := wholeQueueRow.holds Tryz.pinned (OpenSpec.ofChange wholeQueueSpec)

/-- ITS FALSE NEIGHBOUR: 'it returns false'. Refute it at one input. -/
def wholeQueueWrong : ChangeSpec := { name := "wholeQueue", fn := fun _ => fun
  | [d1, d2, d3] => { results := [.lit (.bool false)], args := [d1, d2, d3] }
  | _ => none }
def WholeQueueWrongFalsely : Prop := wholeQueueRow.holds Tryz.pinned (OpenSpec.ofChange wholeQueueWrong)

/-- 'stopcocktop.WholeSame': WHATEVER THE INPUT: true; the input reads as it did. -/
def wholeSameSpec : ChangeSpec := { name := "wholeSame", fn := fun _ => fun
  | [d1, d2, d3, d4] => { results := [.lit (.bool true)], args := [d1, d2, d3, d4] }
  | _ => none }
def wholeSameRow : OpenClaim := { program := "ytcpdfhkhaekekaagreat", sum := "90212cfa891ef5de91997106fd11e3694c3d2eca1a3622bc58c2082b0fc0a0e4", func := "stopcock/stopcocktop.WholeSame", spec := "wholeSame", inPlace := ["slices.overlaps[int]"], unfollowed := true, recurses := true, apart := false }
def WholeSameSaid : Prop := wholeSameRow.holds Tryz.pinned (OpenSpec.ofChange wholeSameSpec)

/-- ITS FALSE NEIGHBOUR: 'it returns false'. Refute it at one input. -/
def wholeSameWrong : ChangeSpec := { name := "wholeSame", fn := fun _ => fun
  | [d1, d2, d3, d4] => { results := [.lit (.bool false)], args := [d1, d2, d3, d4] }
  | _ => none }
def WholeSameWrongFalsely : Prop := wholeSameRow.holds Tryz.pinned (OpenSpec.ofChange wholeSameWrong)

/- THE SECOND FORM. 'bulk': how many values and letters a reading holds, each counted each time it is reached (what is shared counts as often as it is met; a slice's spare places count too). A statement '..UptoSaid' is the law's where the arguments, and the package variables that the reading takes, are together of bulk at most 1048576: NARROWER than '..Said'. Prove '..Said' where nothing that the law and all that it calls make is longer than what came in: it says more and counts as full. Else prove '..UptoSaid'. A law counts once. -/
mutual
def uptoBulk {H : Type} : DataW H → Nat
  | .lit (.string bytes) => bytes.length + 1
  | .lit _ => 1
  | .nil => 1
  | .ptr d => uptoBulk d + 1
  | .slice elems spare => uptoBulkAll elems + uptoBulkAll spare + 1
  | .agg parts => uptoBulkAll parts + 1
  | .iface _ d => uptoBulk d + 1
  | .map entries => uptoBulkEntries entries + 1
  | .held _ => 1
def uptoBulkAll {H : Type} : List (DataW H) → Nat
  | [] => 0
  | d :: r => uptoBulk d + uptoBulkAll r
def uptoBulkEntries {H : Type} : List (Lit × DataW H) → Nat
  | [] => 0
  | x :: r => uptoBulkEntry x + uptoBulkEntries r
def uptoBulkEntry {H : Type} : Lit × DataW H → Nat
  | (.string bytes, d) => bytes.length + uptoBulk d + 1
  | (_, d) => uptoBulk d + 1
 end
def uptoSmall : (H : Type) → List (DataW H) → Bool := fun _ ds => decide (uptoBulkAll ds ≤ 1048576)
def OpenSpec.upto (s : _root_.Go.ChangeSpec) : _root_.Go.OpenSpec := { _root_.Go.OpenSpec.ofChange s with cond := some uptoSmall }

/-- 'stopcocktop.WholeReads', WHERE WHAT IT READS IS OF BULK AT MOST 1048576: true; the input reads as it did. -/
def wholeReadsUptoRow : OpenClaim := { program := "ytcpdfhkhaekekaagreat", sum := "90212cfa891ef5de91997106fd11e3694c3d2eca1a3622bc58c2082b0fc0a0e4", func := "stopcock/stopcocktop.WholeReads", spec := "wholeReads", inPlace := ["slices.overlaps[int]"], unfollowed := true, recurses := true, apart := false, narrowed := true }
def WholeReadsUptoSaid : Prop := wholeReadsUptoRow.holds Tryz.pinned (OpenSpec.upto wholeReadsSpec)

/-- 'stopcocktop.WholeSnaps', WHERE WHAT IT READS IS OF BULK AT MOST 1048576: true; the input reads as it did. -/
def wholeSnapsUptoRow : OpenClaim := { program := "ytcpdfhkhaekekaagreat", sum := "90212cfa891ef5de91997106fd11e3694c3d2eca1a3622bc58c2082b0fc0a0e4", func := "stopcock/stopcocktop.WholeSnaps", spec := "wholeSnaps", inPlace := ["slices.overlaps[int]"], unfollowed := true, recurses := true, apart := false, narrowed := true }
def WholeSnapsUptoSaid : Prop := wholeSnapsUptoRow.holds Tryz.pinned (OpenSpec.upto wholeSnapsSpec)

/-- 'stopcocktop.WholeShares', WHERE WHAT IT READS IS OF BULK AT MOST 1048576: true; the input reads as it did. -/
def wholeSharesUptoRow : OpenClaim := { program := "ytcpdfhkhaekekaagreat", sum := "90212cfa891ef5de91997106fd11e3694c3d2eca1a3622bc58c2082b0fc0a0e4", func := "stopcock/stopcocktop.WholeShares", spec := "wholeShares", inPlace := ["slices.overlaps[int]"], unfollowed := true, recurses := true, apart := false, narrowed := true }
def WholeSharesUptoSaid : Prop := wholeSharesUptoRow.holds Tryz.pinned (OpenSpec.upto wholeSharesSpec)

/-- 'stopcocktop.WholeOrder', WHERE WHAT IT READS IS OF BULK AT MOST 1048576: true; the input reads as it did. -/
def wholeOrderUptoRow : OpenClaim := { program := "ytcpdfhkhaekekaagreat", sum := "90212cfa891ef5de91997106fd11e3694c3d2eca1a3622bc58c2082b0fc0a0e4", func := "stopcock/stopcocktop.WholeOrder", spec := "wholeOrder", inPlace := ["slices.overlaps[int]"], unfollowed := true, recurses := true, apart := false, narrowed := true }
def WholeOrderUptoSaid : Prop := wholeOrderUptoRow.holds Tryz.pinned (OpenSpec.upto wholeOrderSpec)

/-- 'stopcocktop.WholeTwo', WHERE WHAT IT READS IS OF BULK AT MOST 1048576: true; the input reads as it did. -/
def wholeTwoUptoRow : OpenClaim := { program := "ytcpdfhkhaekekaagreat", sum := "90212cfa891ef5de91997106fd11e3694c3d2eca1a3622bc58c2082b0fc0a0e4", func := "stopcock/stopcocktop.WholeTwo", spec := "wholeTwo", inPlace := ["slices.overlaps[int]"], unfollowed := true, recurses := true, apart := false, narrowed := true }
def WholeTwoUptoSaid : Prop := wholeTwoUptoRow.holds Tryz.pinned (OpenSpec.upto wholeTwoSpec)

/-- 'stopcocktop.WholeNew', WHERE WHAT IT READS IS OF BULK AT MOST 1048576: true; the input reads as it did. -/
def wholeNewUptoRow : OpenClaim := { program := "ytcpdfhkhaekekaagreat", sum := "90212cfa891ef5de91997106fd11e3694c3d2eca1a3622bc58c2082b0fc0a0e4", func := "stopcock/stopcocktop.WholeNew", spec := "wholeNew", inPlace := ["slices.overlaps[int]"], unfollowed := true, recurses := true, apart := false, narrowed := true }
def WholeNewUptoSaid : Prop := wholeNewUptoRow.holds Tryz.pinned (OpenSpec.upto wholeNewSpec)

/-- 'stopcocktop.WholeQueue', WHERE WHAT IT READS IS OF BULK AT MOST 1048576: true; the input reads as it did. -/
def wholeQueueUptoRow : OpenClaim := { program := "ytcpdfhkhaekekaagreat", sum := "90212cfa891ef5de91997106fd11e3694c3d2eca1a3622bc58c2082b0fc0a0e4", func := "stopcock/stopcocktop.WholeQueue", spec := "wholeQueue", inPlace := ["slices.overlaps[int]"], unfollowed := true, recurses := true, apart := false, narrowed := true }
def WholeQueueUptoSaid : Prop := wholeQueueUptoRow.holds Tryz.pinned (OpenSpec.upto wholeQueueSpec)

/-- 'stopcocktop.WholeSame', WHERE WHAT IT READS IS OF BULK AT MOST 1048576: true; the input reads as it did. -/
def wholeSameUptoRow : OpenClaim := { program := "ytcpdfhkhaekekaagreat", sum := "90212cfa891ef5de91997106fd11e3694c3d2eca1a3622bc58c2082b0fc0a0e4", func := "stopcock/stopcocktop.WholeSame", spec := "wholeSame", inPlace := ["slices.overlaps[int]"], unfollowed := true, recurses := true, apart := false, narrowed := true }
def WholeSameUptoSaid : Prop := wholeSameUptoRow.holds Tryz.pinned (OpenSpec.upto wholeSameSpec)

end Rows
end Go.Proofs.YtcpdfhkhaekekaaGreat
