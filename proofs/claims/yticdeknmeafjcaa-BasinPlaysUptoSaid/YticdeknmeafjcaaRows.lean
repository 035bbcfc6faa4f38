/-
  No cell of these rows narrows 'for every input' (looked for: loops, veiled, ifaces, maps, wideKeys, modest, calm, conditions, laid).
  DERIVED. THE GIVEN ROWS OF THIS SEAT. 5 by the template 'for every input the law returns true; each argument reads behind the call as it read before'; 0 by the template 'total and deterministic' (their statements: YticdeknmeafjcaaTotals.lean).
  GIVEN WITH THE SEED: the statements are not yours to turn. If you find one false, say at which input.
  Laid BY PROGRAM, IN A SANDBOX (cutbox-rows.mjs): the forced cells as the released guide's own fill.sh prints them over the translation fba6561ac0aba5ae… (all of the seat's roots in one cut). By AI agents, Wed Nov 11 2026. No macro, syntax, notation, axiom, sorry.
-/
import Derived.Test.YticdeknmeafjcaaChecked
import GoSem.Claim
import GoSem.ClaimJoined
import GoSem.ClaimMapViews
import Derived.JoinedTies
import Derived.KernelRfl
namespace Go.Proofs.Yticdeknmeafjcaa
/- THE CELL 'sum', in the pinned program and in every row, IS THE sha256 OF THE DUMP (.gsa) THAT YticdeknmeafjcaaProg.lean LOADS. Nothing in Lean hashes anything: it is a label: what it is worth is what the hold of that sum in a sandbox is worth. -/
noncomputable def Try.pinned : Pinned := { name := "yticdeknmeafjcaa", sum := "fba6561ac0aba5ae2403dc7d5cb3afbc41d3448e84058b1c7f91d8e2dcad46d0", checked := Try.checked }
namespace Rows
def none {H : Type} : Left H := { results := [], args := [] }

/-- 'stopcocklaw05.BasinLasts': WHATEVER THE INPUT: true; the input reads as it did. -/
def basinLastsSpec : ChangeSpec := { name := "basinLasts", fn := fun _ => fun
  | [d1, d2, d3] => { results := [.lit (.bool true)], args := [d1, d2, d3] }
  | _ => none }
def basinLastsRow : OpenClaim := { program := "yticdeknmeafjcaa", sum := "fba6561ac0aba5ae2403dc7d5cb3afbc41d3448e84058b1c7f91d8e2dcad46d0", func := "stopcock/stopcocklaw05.BasinLasts", spec := "basinLasts", unfollowed := true, recurses := true, apart := false }
def BasinLastsSaid : Prop := basinLastsRow.holds Try.pinned (OpenSpec.ofChange basinLastsSpec)

/-- ITS FALSE NEIGHBOUR: 'it returns false'. Refute it at one input. -/
def basinLastsWrong : ChangeSpec := { name := "basinLasts", fn := fun _ => fun
  | [d1, d2, d3] => { results := [.lit (.bool false)], args := [d1, d2, d3] }
  | _ => none }
def BasinLastsWrongFalsely : Prop := basinLastsRow.holds Try.pinned (OpenSpec.ofChange basinLastsWrong)

/-- 'stopcocklaw05.BasinAll': WHATEVER THE INPUT: true; the input reads as it did. -/
def basinAllSpec : ChangeSpec := { name := "basinAll", fn := fun _ => fun
  | [d1, d2] => { results := [.lit (.bool true)], args := [d1, d2] }
  | _ => none }
def basinAllRow : OpenClaim := { program := "yticdeknmeafjcaa", sum := "fba6561ac0aba5ae2403dc7d5cb3afbc41d3448e84058b1c7f91d8e2dcad46d0", func := "stopcock/stopcocklaw05.BasinAll", spec := "basinAll", unfollowed := true, recurses := true, apart := false }
def BasinAllSaid : Prop := basinAllRow.holds Try.pinned (OpenSpec.ofChange basinAllSpec)

/-- ITS FALSE NEIGHBOUR: 'it returns false'. Refute it at one input. -/
def basinAllWrong : ChangeSpec := { name := "basinAll", fn := fun _ => fun
  | [d1, d2] => { results := [.lit (.bool false)], args := [d1, d2] }
  | _ => none }
def BasinAllWrongFalsely : Prop := basinAllRow.holds Try.pinned (OpenSpec.ofChange basinAllWrong)

/-- 'stopcocklaw05.BasinPlays': WHATEVER THE INPUT: true; the input reads as it did. -/
def basinPlaysSpec : ChangeSpec := { name := "basinPlays", fn := fun _ => fun
  | [d1, d2] => { results := [.lit (.bool true)], args := [d1, d2] }
  | _ => none }
def basinPlaysRow : OpenClaim := { program := "yticdeknmeafjcaa", sum := "fba6561ac0aba5ae2403dc7d5cb3afbc41d3448e84058b1c7f91d8e2dcad46d0", func := "stopcock/stopcocklaw05.BasinPlays", spec := "basinPlays", unfollowed := true, recurses := true, apart := false }
def BasinPlaysSaid : Prop := basinPlaysRow.holds Try.pinned (OpenSpec.ofChange basinPlaysSpec)

/-- ITS FALSE NEIGHBOUR: 'it returns false'. Refute it at one input. -/
def basinPlaysWrong : ChangeSpec := { name := "basinPlays", fn := fun _ => fun
  | [d1, d2] => { results := [.lit (.bool false)], args := [d1, d2] }
  | _ => none }
def BasinPlaysWrongFalsely : Prop := basinPlaysRow.holds Try.pinned (OpenSpec.ofChange basinPlaysWrong)

/-- 'stopcocklaw05.BasinFails': WHATEVER THE INPUT: true; the input reads as it did. -/
def basinFailsSpec : ChangeSpec := { name := "basinFails", fn := fun _ => fun
  | [d1, d2] => { results := [.lit (.bool true)], args := [d1, d2] }
  | _ => none }
def basinFailsRow : OpenClaim := { program := "yticdeknmeafjcaa", sum := "fba6561ac0aba5ae2403dc7d5cb3afbc41d3448e84058b1c7f91d8e2dcad46d0", func := "stopcock/stopcocklaw05.BasinFails", spec := "basinFails", unfollowed := true, recurses := true, apart := false }
def BasinFailsSaid : Prop := basinFailsRow.holds Try.pinned (OpenSpec.ofChange basinFailsSpec)

/-- ITS FALSE NEIGHBOUR: 'it returns false'. Refute it at one input. -/
def basinFailsWrong : ChangeSpec := { name := "basinFails", fn := fun _ => fun
  | [d1, d2] => { results := [.lit (.bool false)], args := [d1, d2] }
  | _ => none }
def BasinFailsWrongFalsely : Prop := basinFailsRow.holds Try.pinned (OpenSpec.ofChange basinFailsWrong)

/-- 'stopcocklaw05.BasinNone': WHATEVER THE INPUT: true; the input reads as it did. -/
def basinNoneSpec : ChangeSpec := { name := "basinNone", fn := fun _ => fun
  | [d1, d2, d3] => { results := [.lit (.bool true)], args := [d1, d2, d3] }
  | _ => none }
def basinNoneRow : OpenClaim := { program := "yticdeknmeafjcaa", sum := "fba6561ac0aba5ae2403dc7d5cb3afbc41d3448e84058b1c7f91d8e2dcad46d0", func := "stopcock/stopcocklaw05.BasinNone", spec := "basinNone", unfollowed := true, recurses := true, apart := false }
def BasinNoneSaid : Prop := basinNoneRow.holds Try.pinned (OpenSpec.ofChange basinNoneSpec)

/-- ITS FALSE NEIGHBOUR: 'it returns false'. Refute it at one input. -/
def basinNoneWrong : ChangeSpec := { name := "basinNone", fn := fun _ => fun
  | [d1, d2, d3] => { results := [.lit (.bool false)], args := [d1, d2, d3] }
  | _ => none }
def BasinNoneWrongFalsely : Prop := basinNoneRow.holds Try.pinned (OpenSpec.ofChange basinNoneWrong)

/- THE SECOND FORM. 'bulk': how many values and letters a reading holds, each counted each time it is reached (what is shared counts as often as it is met; a slice's spare places count too). A statement '..UptoSaid' is the law's where the arguments, and the package variables that the reading takes, are together of bulk at most 1048576: NARROWER than '..Said'. Prove '..Said' where nothing that the law and all that it calls make is longer than what came in: it says more and counts as full. Else prove '..UptoSaid'. A law counts once. -/
mutual
def uptoBulk {H : Type} : DataW H → Nat
  | .lit (.string bytes) => bytes.length + 1
  | .lit _ => 1
  | .nil => 1
  | .ptr d => uptoBulk d + 1
  | .slice elems spare => uptoBulkAll elems + uptoBulkAll spare + 1
  | .agg parts => uptoBulkAll parts + 1
  | .iface _ d => uptoBulk d + 1
  | .map entries => uptoBulkEntries entries + 1
  | .held _ => 1
def uptoBulkAll {H : Type} : List (DataW H) → Nat
  | [] => 0
  | d :: r => uptoBulk d + uptoBulkAll r
def uptoBulkEntries {H : Type} : List (Lit × DataW H) → Nat
  | [] => 0
  | x :: r => uptoBulkEntry x + uptoBulkEntries r
def uptoBulkEntry {H : Type} : Lit × DataW H → Nat
  | (.string bytes, d) => bytes.length + uptoBulk d + 1
  | (_, d) => uptoBulk d + 1
 end
def uptoSmall : (H : Type) → List (DataW H) → Bool := fun _ ds => decide (uptoBulkAll ds ≤ 1048576)
def OpenSpec.upto (s : _root_.Go.ChangeSpec) : _root_.Go.OpenSpec := { _root_.Go.OpenSpec.ofChange s with cond := some uptoSmall }

/-- 'stopcocklaw05.BasinLasts', WHERE WHAT IT READS IS OF BULK AT MOST 1048576: true; the input reads as it did. -/
def basinLastsUptoRow : OpenClaim := { program := "yticdeknmeafjcaa", sum := "fba6561ac0aba5ae2403dc7d5cb3afbc41d3448e84058b1c7f91d8e2dcad46d0", func := "stopcock/stopcocklaw05.BasinLasts", spec := "basinLasts", unfollowed := true, recurses := true, apart := false, narrowed := true }
def BasinLastsUptoSaid : Prop := basinLastsUptoRow.holds Try.pinned (OpenSpec.upto basinLastsSpec)

/-- 'stopcocklaw05.BasinAll', WHERE WHAT IT READS IS OF BULK AT MOST 1048576: true; the input reads as it did. -/
def basinAllUptoRow : OpenClaim := { program := "yticdeknmeafjcaa", sum := "fba6561ac0aba5ae2403dc7d5cb3afbc41d3448e84058b1c7f91d8e2dcad46d0", func := "stopcock/stopcocklaw05.BasinAll", spec := "basinAll", unfollowed := true, recurses := true, apart := false, narrowed := true }
def BasinAllUptoSaid : Prop := basinAllUptoRow.holds Try.pinned (OpenSpec.upto basinAllSpec)

/-- 'stopcocklaw05.BasinPlays', WHERE WHAT IT READS IS OF BULK AT MOST 1048576: true; the input reads as it did. -/
def basinPlaysUptoRow : OpenClaim := { program := "yticdeknmeafjcaa", sum := "fba6561ac0aba5ae2403dc7d5cb3afbc41d3448e84058b1c7f91d8e2dcad46d0", func := "stopcock/stopcocklaw05.BasinPlays", spec := "basinPlays", unfollowed := true, recurses := true, apart := false, narrowed := true }
def BasinPlaysUptoSaid : Prop := basinPlaysUptoRow.holds Try.pinned (OpenSpec.upto basinPlaysSpec)

/-- 'stopcocklaw05.BasinFails', WHERE WHAT IT READS IS OF BULK AT MOST 1048576: true; the input reads as it did. -/
def basinFailsUptoRow : OpenClaim := { program := "yticdeknmeafjcaa", sum := "fba6561ac0aba5ae2403dc7d5cb3afbc41d3448e84058b1c7f91d8e2dcad46d0", func := "stopcock/stopcocklaw05.BasinFails", spec := "basinFails", unfollowed := true, recurses := true, apart := false, narrowed := true }
def BasinFailsUptoSaid : Prop := basinFailsUptoRow.holds Try.pinned (OpenSpec.upto basinFailsSpec)

/-- 'stopcocklaw05.BasinNone', WHERE WHAT IT READS IS OF BULK AT MOST 1048576: true; the input reads as it did. -/
def basinNoneUptoRow : OpenClaim := { program := "yticdeknmeafjcaa", sum := "fba6561ac0aba5ae2403dc7d5cb3afbc41d3448e84058b1c7f91d8e2dcad46d0", func := "stopcock/stopcocklaw05.BasinNone", spec := "basinNone", unfollowed := true, recurses := true, apart := false, narrowed := true }
def BasinNoneUptoSaid : Prop := basinNoneUptoRow.holds Try.pinned (OpenSpec.upto basinNoneSpec)

end Rows
end Go.Proofs.Yticdeknmeafjcaa
