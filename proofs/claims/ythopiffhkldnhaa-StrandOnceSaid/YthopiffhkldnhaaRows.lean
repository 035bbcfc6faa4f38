/-
  No cell of these rows narrows 'for every input' (looked for: loops, veiled, ifaces, maps, wideKeys, modest, calm, conditions, laid).
  DERIVED. THE GIVEN ROWS OF THIS SEAT. 4 by the template 'for every input the law returns true; each argument reads behind the call as it read before'; 0 by the template 'total and deterministic' (their statements: YthopiffhkldnhaaTotals.lean).
  GIVEN WITH THE SEED: the statements are not yours to turn. If you find one false, say at which input.
  Laid BY PROGRAM, IN A SANDBOX (cutbox-rows.mjs): the forced cells as the released guide's own fill.sh prints them over the translation 6df44cb49076749e… (all of the seat's roots in one cut). By AI agents, Wed Nov 11 2026. No macro, syntax, notation, axiom, sorry.
-/
import Derived.Test.YthopiffhkldnhaaChecked
import GoSem.Claim
import GoSem.ClaimJoined
import GoSem.ClaimMapViews
import Derived.JoinedTies
import Derived.KernelRfl
namespace Go.Proofs.Ythopiffhkldnhaa
/- THE CELL 'sum', in the pinned program and in every row, IS THE sha256 OF THE DUMP (.gsa) THAT YthopiffhkldnhaaProg.lean LOADS. Nothing in Lean hashes anything: it is a label: what it is worth is what the hold of that sum in a sandbox is worth. -/
noncomputable def Try.pinned : Pinned := { name := "ythopiffhkldnhaa", sum := "6df44cb49076749e499bee9be0b7e4529004b56f6b97e10525ed7ba0731638ce", checked := Try.checked }
namespace Rows
def none {H : Type} : Left H := { results := [], args := [] }

/-- 'stopcocklaw16.StrandPlays': WHATEVER THE INPUT: true; the input reads as it did. -/
def strandPlaysSpec : ChangeSpec := { name := "strandPlays", fn := fun _ => fun
  | [d1, d2, d3] => { results := [.lit (.bool true)], args := [d1, d2, d3] }
  | _ => none }
def strandPlaysRow : OpenClaim := { program := "ythopiffhkldnhaa", sum := "6df44cb49076749e499bee9be0b7e4529004b56f6b97e10525ed7ba0731638ce", func := "stopcock/stopcocklaw16.StrandPlays", spec := "strandPlays", inPlace := ["slices.overlaps[int]"], apart := false }
def StrandPlaysSaid : Prop := strandPlaysRow.holds Try.pinned (OpenSpec.ofChange strandPlaysSpec)

/-- ITS FALSE NEIGHBOUR: 'it returns false'. Refute it at one input. -/
def strandPlaysWrong : ChangeSpec := { name := "strandPlays", fn := fun _ => fun
  | [d1, d2, d3] => { results := [.lit (.bool false)], args := [d1, d2, d3] }
  | _ => none }
def StrandPlaysWrongFalsely : Prop := strandPlaysRow.holds Try.pinned (OpenSpec.ofChange strandPlaysWrong)

/-- 'stopcocklaw16.StrandOnce': WHATEVER THE INPUT: true; the input reads as it did. -/
def strandOnceSpec : ChangeSpec := { name := "strandOnce", fn := fun _ => fun
  | [d1, d2, d3, d4] => { results := [.lit (.bool true)], args := [d1, d2, d3, d4] }
  | _ => none }
def strandOnceRow : OpenClaim := { program := "ythopiffhkldnhaa", sum := "6df44cb49076749e499bee9be0b7e4529004b56f6b97e10525ed7ba0731638ce", func := "stopcock/stopcocklaw16.StrandOnce", spec := "strandOnce", inPlace := ["slices.overlaps[int]"], apart := false }
def StrandOnceSaid : Prop := strandOnceRow.holds Try.pinned (OpenSpec.ofChange strandOnceSpec)

/-- ITS FALSE NEIGHBOUR: 'it returns false'. Refute it at one input. -/
def strandOnceWrong : ChangeSpec := { name := "strandOnce", fn := fun _ => fun
  | [d1, d2, d3, d4] => { results := [.lit (.bool false)], args := [d1, d2, d3, d4] }
  | _ => none }
def StrandOnceWrongFalsely : Prop := strandOnceRow.holds Try.pinned (OpenSpec.ofChange strandOnceWrong)

/-- 'stopcocklaw16.StrandNone': WHATEVER THE INPUT: true; the input reads as it did. -/
def strandNoneSpec : ChangeSpec := { name := "strandNone", fn := fun _ => fun
  | [d] => { results := [.lit (.bool true)], args := [d] }
  | _ => none }
def strandNoneRow : OpenClaim := { program := "ythopiffhkldnhaa", sum := "6df44cb49076749e499bee9be0b7e4529004b56f6b97e10525ed7ba0731638ce", func := "stopcock/stopcocklaw16.StrandNone", spec := "strandNone", inPlace := ["slices.overlaps[int]"], apart := false }
def StrandNoneSaid : Prop := strandNoneRow.holds Try.pinned (OpenSpec.ofChange strandNoneSpec)

/-- ITS FALSE NEIGHBOUR: 'it returns false'. Refute it at one input. -/
def strandNoneWrong : ChangeSpec := { name := "strandNone", fn := fun _ => fun
  | [d] => { results := [.lit (.bool false)], args := [d] }
  | _ => none }
def StrandNoneWrongFalsely : Prop := strandNoneRow.holds Try.pinned (OpenSpec.ofChange strandNoneWrong)

/-- 'stopcocklaw16.StrandFrees': WHATEVER THE INPUT: true; the input reads as it did. -/
def strandFreesSpec : ChangeSpec := { name := "strandFrees", fn := fun _ => fun
  | [d1, d2] => { results := [.lit (.bool true)], args := [d1, d2] }
  | _ => none }
def strandFreesRow : OpenClaim := { program := "ythopiffhkldnhaa", sum := "6df44cb49076749e499bee9be0b7e4529004b56f6b97e10525ed7ba0731638ce", func := "stopcock/stopcocklaw16.StrandFrees", spec := "strandFrees", inPlace := ["slices.overlaps[int]"], apart := false }
def StrandFreesSaid : Prop := strandFreesRow.holds Try.pinned (OpenSpec.ofChange strandFreesSpec)

/-- ITS FALSE NEIGHBOUR: 'it returns false'. Refute it at one input. -/
def strandFreesWrong : ChangeSpec := { name := "strandFrees", fn := fun _ => fun
  | [d1, d2] => { results := [.lit (.bool false)], args := [d1, d2] }
  | _ => none }
def StrandFreesWrongFalsely : Prop := strandFreesRow.holds Try.pinned (OpenSpec.ofChange strandFreesWrong)

/- THE SECOND FORM. 'bulk': how many values and letters a reading holds, each counted each time it is reached (what is shared counts as often as it is met; a slice's spare places count too). A statement '..UptoSaid' is the law's where the arguments, and the package variables that the reading takes, are together of bulk at most 1048576: NARROWER than '..Said'. Prove '..Said' where nothing that the law and all that it calls make is longer than what came in: it says more and counts as full. Else prove '..UptoSaid'. A law counts once. -/
mutual
def uptoBulk {H : Type} : DataW H → Nat
  | .lit (.string bytes) => bytes.length + 1
  | .lit _ => 1
  | .nil => 1
  | .ptr d => uptoBulk d + 1
  | .slice elems spare => uptoBulkAll elems + uptoBulkAll spare + 1
  | .agg parts => uptoBulkAll parts + 1
  | .iface _ d => uptoBulk d + 1
  | .map entries => uptoBulkEntries entries + 1
  | .held _ => 1
def uptoBulkAll {H : Type} : List (DataW H) → Nat
  | [] => 0
  | d :: r => uptoBulk d + uptoBulkAll r
def uptoBulkEntries {H : Type} : List (Lit × DataW H) → Nat
  | [] => 0
  | x :: r => uptoBulkEntry x + uptoBulkEntries r
def uptoBulkEntry {H : Type} : Lit × DataW H → Nat
  | (.string bytes, d) => bytes.length + uptoBulk d + 1
  | (_, d) => uptoBulk d + 1
 end
def uptoSmall : (H : Type) → List (DataW H) → Bool := fun _ ds => decide (uptoBulkAll ds ≤ 1048576)
def OpenSpec.upto (s : _root_.Go.ChangeSpec) : _root_.Go.OpenSpec := { _root_.Go.OpenSpec.ofChange s with cond := some uptoSmall }

/-- 'stopcocklaw16.StrandPlays', WHERE WHAT IT READS IS OF BULK AT MOST 1048576: true; the input reads as it did. -/
def strandPlaysUptoRow : OpenClaim := { program := "ythopiffhkldnhaa", sum := "6df44cb49076749e499bee9be0b7e4529004b56f6b97e10525ed7ba0731638ce", func := "stopcock/stopcocklaw16.StrandPlays", spec := "strandPlays", inPlace := ["slices.overlaps[int]"], apart := false, narrowed := true }
def StrandPlaysUptoSaid : Prop := strandPlaysUptoRow.holds Try.pinned (OpenSpec.upto strandPlaysSpec)

/-- 'stopcocklaw16.StrandOnce', WHERE WHAT IT READS IS OF BULK AT MOST 1048576: true; the input reads as it did. -/
def strandOnceUptoRow : OpenClaim := { program := "ythopiffhkldnhaa", sum := "6df44cb49076749e499bee9be0b7e4529004b56f6b97e10525ed7ba0731638ce", func := "stopcock/stopcocklaw16.StrandOnce", spec := "strandOnce", inPlace := ["slices.overlaps[int]"], apart := false, narrowed := true }
def StrandOnceUptoSaid : Prop := strandOnceUptoRow.holds Try.pinned (OpenSpec.upto strandOnceSpec)

/-- 'stopcocklaw16.StrandNone', WHERE WHAT IT READS IS OF BULK AT MOST 1048576: true; the input reads as it did. -/
def strandNoneUptoRow : OpenClaim := { program := "ythopiffhkldnhaa", sum := "6df44cb49076749e499bee9be0b7e4529004b56f6b97e10525ed7ba0731638ce", func := "stopcock/stopcocklaw16.StrandNone", spec := "strandNone", inPlace := ["slices.overlaps[int]"], apart := false, narrowed := true }
def StrandNoneUptoSaid : Prop := strandNoneUptoRow.holds Try.pinned (OpenSpec.upto strandNoneSpec)

/-- 'stopcocklaw16.StrandFrees', WHERE WHAT IT READS IS OF BULK AT MOST 1048576: true; the input reads as it did. -/
def strandFreesUptoRow : OpenClaim := { program := "ythopiffhkldnhaa", sum := "6df44cb49076749e499bee9be0b7e4529004b56f6b97e10525ed7ba0731638ce", func := "stopcock/stopcocklaw16.StrandFrees", spec := "strandFrees", inPlace := ["slices.overlaps[int]"], apart := false, narrowed := true }
def StrandFreesUptoSaid : Prop := strandFreesUptoRow.holds Try.pinned (OpenSpec.upto strandFreesSpec)

end Rows
end Go.Proofs.Ythopiffhkldnhaa
