/-
  No cell of these rows narrows 'for every input' (looked for: loops, veiled, ifaces, maps, wideKeys, modest, calm, conditions, laid).
  DERIVED. THE GIVEN ROWS OF THIS SEAT. 6 by the template 'for every input the law returns true; each argument reads behind the call as it read before'; 0 by the template 'total and deterministic' (their statements: YtikclgliegfocaaTotals.lean).
  GIVEN WITH THE SEED: the statements are not yours to turn. If you find one false, say at which input.
  Laid BY PROGRAM, IN A SANDBOX (cutbox-rows.mjs): the forced cells as the released guide's own fill.sh prints them over the translation ee7c9423f7d9f99b… (all of the seat's roots in one cut). By AI agents, Wed Nov 11 2026. No macro, syntax, notation, axiom, sorry.
-/
import Derived.Test.YtikclgliegfocaaChecked
import GoSem.Claim
import GoSem.ClaimJoined
import GoSem.ClaimMapViews
import Derived.JoinedTies
import Derived.KernelRfl
namespace Go.Proofs.Ytikclgliegfocaa
/- THE CELL 'sum', in the pinned program and in every row, IS THE sha256 OF THE DUMP (.gsa) THAT YtikclgliegfocaaProg.lean LOADS. Nothing in Lean hashes anything: it is a label: what it is worth is what the hold of that sum in a sandbox is worth. -/
noncomputable def Try.pinned : Pinned := { name := "ytikclgliegfocaa", sum := "ee7c9423f7d9f99b78bc998f65e4eb5490f80991574b1dfa9c3c26dc5710322e", checked := Try.checked }
namespace Rows
def none {H : Type} : Left H := { results := [], args := [] }

/-- 'stopcocklaw03.SealSums': WHATEVER THE INPUT: true; the input reads as it did. -/
def sealSumsSpec : ChangeSpec := { name := "sealSums", fn := fun _ => fun
  | [d1, d2] => { results := [.lit (.bool true)], args := [d1, d2] }
  | _ => none }
def sealSumsRow : OpenClaim := { program := "ytikclgliegfocaa", sum := "ee7c9423f7d9f99b78bc998f65e4eb5490f80991574b1dfa9c3c26dc5710322e", func := "stopcock/stopcocklaw03.SealSums", spec := "sealSums", apart := false }
def SealSumsSaid : Prop := sealSumsRow.holds Try.pinned (OpenSpec.ofChange sealSumsSpec)

/-- ITS FALSE NEIGHBOUR: 'it returns false'. Refute it at one input. -/
def sealSumsWrong : ChangeSpec := { name := "sealSums", fn := fun _ => fun
  | [d1, d2] => { results := [.lit (.bool false)], args := [d1, d2] }
  | _ => none }
def SealSumsWrongFalsely : Prop := sealSumsRow.holds Try.pinned (OpenSpec.ofChange sealSumsWrong)

/-- 'stopcocklaw03.SealSectors': WHATEVER THE INPUT: true; the input reads as it did. -/
def sealSectorsSpec : ChangeSpec := { name := "sealSectors", fn := fun _ => fun
  | [d1, d2] => { results := [.lit (.bool true)], args := [d1, d2] }
  | _ => none }
def sealSectorsRow : OpenClaim := { program := "ytikclgliegfocaa", sum := "ee7c9423f7d9f99b78bc998f65e4eb5490f80991574b1dfa9c3c26dc5710322e", func := "stopcock/stopcocklaw03.SealSectors", spec := "sealSectors", apart := false }
def SealSectorsSaid : Prop := sealSectorsRow.holds Try.pinned (OpenSpec.ofChange sealSectorsSpec)

/-- ITS FALSE NEIGHBOUR: 'it returns false'. Refute it at one input. -/
def sealSectorsWrong : ChangeSpec := { name := "sealSectors", fn := fun _ => fun
  | [d1, d2] => { results := [.lit (.bool false)], args := [d1, d2] }
  | _ => none }
def SealSectorsWrongFalsely : Prop := sealSectorsRow.holds Try.pinned (OpenSpec.ofChange sealSectorsWrong)

/-- 'stopcocklaw03.SealBack': WHATEVER THE INPUT: true; the input reads as it did. -/
def sealBackSpec : ChangeSpec := { name := "sealBack", fn := fun _ => fun
  | [d1, d2] => { results := [.lit (.bool true)], args := [d1, d2] }
  | _ => none }
def sealBackRow : OpenClaim := { program := "ytikclgliegfocaa", sum := "ee7c9423f7d9f99b78bc998f65e4eb5490f80991574b1dfa9c3c26dc5710322e", func := "stopcock/stopcocklaw03.SealBack", spec := "sealBack", apart := false }
def SealBackSaid : Prop := sealBackRow.holds Try.pinned (OpenSpec.ofChange sealBackSpec)

/-- ITS FALSE NEIGHBOUR: 'it returns false'. Refute it at one input. -/
def sealBackWrong : ChangeSpec := { name := "sealBack", fn := fun _ => fun
  | [d1, d2] => { results := [.lit (.bool false)], args := [d1, d2] }
  | _ => none }
def SealBackWrongFalsely : Prop := sealBackRow.holds Try.pinned (OpenSpec.ofChange sealBackWrong)

/-- 'stopcocklaw03.SealFinds': WHATEVER THE INPUT: true; the input reads as it did. -/
def sealFindsSpec : ChangeSpec := { name := "sealFinds", fn := fun _ => fun
  | [d1, d2, d3] => { results := [.lit (.bool true)], args := [d1, d2, d3] }
  | _ => none }
def sealFindsRow : OpenClaim := { program := "ytikclgliegfocaa", sum := "ee7c9423f7d9f99b78bc998f65e4eb5490f80991574b1dfa9c3c26dc5710322e", func := "stopcock/stopcocklaw03.SealFinds", spec := "sealFinds", apart := false }
def SealFindsSaid : Prop := sealFindsRow.holds Try.pinned (OpenSpec.ofChange sealFindsSpec)

/-- ITS FALSE NEIGHBOUR: 'it returns false'. Refute it at one input. -/
def sealFindsWrong : ChangeSpec := { name := "sealFinds", fn := fun _ => fun
  | [d1, d2, d3] => { results := [.lit (.bool false)], args := [d1, d2, d3] }
  | _ => none }
def SealFindsWrongFalsely : Prop := sealFindsRow.holds Try.pinned (OpenSpec.ofChange sealFindsWrong)

/-- 'stopcocklaw03.SealThree': WHATEVER THE INPUT: true; the input reads as it did. -/
def sealThreeSpec : ChangeSpec := { name := "sealThree", fn := fun _ => fun
  | [d1, d2, d3] => { results := [.lit (.bool true)], args := [d1, d2, d3] }
  | _ => none }
def sealThreeRow : OpenClaim := { program := "ytikclgliegfocaa", sum := "ee7c9423f7d9f99b78bc998f65e4eb5490f80991574b1dfa9c3c26dc5710322e", func := "stopcock/stopcocklaw03.SealThree", spec := "sealThree", apart := false }
def SealThreeSaid : Prop := sealThreeRow.holds Try.pinned (OpenSpec.ofChange sealThreeSpec)

/-- ITS FALSE NEIGHBOUR: 'it returns false'. Refute it at one input. -/
def sealThreeWrong : ChangeSpec := { name := "sealThree", fn := fun _ => fun
  | [d1, d2, d3] => { results := [.lit (.bool false)], args := [d1, d2, d3] }
  | _ => none }
def SealThreeWrongFalsely : Prop := sealThreeRow.holds Try.pinned (OpenSpec.ofChange sealThreeWrong)

/-- 'stopcocklaw03.SealPads': WHATEVER THE INPUT: true; the input reads as it did. -/
def sealPadsSpec : ChangeSpec := { name := "sealPads", fn := fun _ => fun
  | [d1, d2, d3] => { results := [.lit (.bool true)], args := [d1, d2, d3] }
  | _ => none }
def sealPadsRow : OpenClaim := { program := "ytikclgliegfocaa", sum := "ee7c9423f7d9f99b78bc998f65e4eb5490f80991574b1dfa9c3c26dc5710322e", func := "stopcock/stopcocklaw03.SealPads", spec := "sealPads", apart := false }
def SealPadsSaid : Prop := sealPadsRow.holds Try.pinned (OpenSpec.ofChange sealPadsSpec)

/-- ITS FALSE NEIGHBOUR: 'it returns false'. Refute it at one input. -/
def sealPadsWrong : ChangeSpec := { name := "sealPads", fn := fun _ => fun
  | [d1, d2, d3] => { results := [.lit (.bool false)], args := [d1, d2, d3] }
  | _ => none }
def SealPadsWrongFalsely : Prop := sealPadsRow.holds Try.pinned (OpenSpec.ofChange sealPadsWrong)

/- THE SECOND FORM. 'bulk': how many values and letters a reading holds, each counted each time it is reached (what is shared counts as often as it is met; a slice's spare places count too). A statement '..UptoSaid' is the law's where the arguments, and the package variables that the reading takes, are together of bulk at most 1048576: NARROWER than '..Said'. Prove '..Said' where nothing that the law and all that it calls make is longer than what came in: it says more and counts as full. Else prove '..UptoSaid'. A law counts once. -/
mutual
def uptoBulk {H : Type} : DataW H → Nat
  | .lit (.string bytes) => bytes.length + 1
  | .lit _ => 1
  | .nil => 1
  | .ptr d => uptoBulk d + 1
  | .slice elems spare => uptoBulkAll elems + uptoBulkAll spare + 1
  | .agg parts => uptoBulkAll parts + 1
  | .iface _ d => uptoBulk d + 1
  | .map entries => uptoBulkEntries entries + 1
  | .held _ => 1
def uptoBulkAll {H : Type} : List (DataW H) → Nat
  | [] => 0
  | d :: r => uptoBulk d + uptoBulkAll r
def uptoBulkEntries {H : Type} : List (Lit × DataW H) → Nat
  | [] => 0
  | x :: r => uptoBulkEntry x + uptoBulkEntries r
def uptoBulkEntry {H : Type} : Lit × DataW H → Nat
  | (.string bytes, d) => bytes.length + uptoBulk d + 1
  | (_, d) => uptoBulk d + 1
 end
def uptoSmall : (H : Type) → List (DataW H) → Bool := fun _ ds => decide (uptoBulkAll ds ≤ 1048576)
def OpenSpec.upto (s : _root_.Go.ChangeSpec) : _root_.Go.OpenSpec := { _root_.Go.OpenSpec.ofChange s with cond := some uptoSmall }

/-- 'stopcocklaw03.SealSums', WHERE WHAT IT READS IS OF BULK AT MOST 1048576: true; the input reads as it did. -/
def sealSumsUptoRow : OpenClaim := { program := "ytikclgliegfocaa", sum := "ee7c9423f7d9f99b78bc998f65e4eb5490f80991574b1dfa9c3c26dc5710322e", func := "stopcock/stopcocklaw03.SealSums", spec := "sealSums", apart := false, narrowed := true }
def SealSumsUptoSaid : Prop := sealSumsUptoRow.holds Try.pinned (OpenSpec.upto sealSumsSpec)

/-- 'stopcocklaw03.SealSectors', WHERE WHAT IT READS IS OF BULK AT MOST 1048576: true; the input reads as it did. -/
def sealSectorsUptoRow : OpenClaim := { program := "ytikclgliegfocaa", sum := "ee7c9423f7d9f99b78bc998f65e4eb5490f80991574b1dfa9c3c26dc5710322e", func := "stopcock/stopcocklaw03.SealSectors", spec := "sealSectors", apart := false, narrowed := true }
def SealSectorsUptoSaid : Prop := sealSectorsUptoRow.holds Try.pinned (OpenSpec.upto sealSectorsSpec)

/-- 'stopcocklaw03.SealBack', WHERE WHAT IT READS IS OF BULK AT MOST 1048576: true; the input reads as it did. -/
def sealBackUptoRow : OpenClaim := { program := "ytikclgliegfocaa", sum := "ee7c9423f7d9f99b78bc998f65e4eb5490f80991574b1dfa9c3c26dc5710322e", func := "stopcock/stopcocklaw03.SealBack", spec := "sealBack", apart := false, narrowed := true }
def SealBackUptoSaid : Prop := sealBackUptoRow.holds Try.pinned (OpenSpec.upto sealBackSpec)

/-- 'stopcocklaw03.SealFinds', WHERE WHAT IT READS IS OF BULK AT MOST 1048576: true; the input reads as it did. -/
def sealFindsUptoRow : OpenClaim := { program := "ytikclgliegfocaa", sum := "ee7c9423f7d9f99b78bc998f65e4eb5490f80991574b1dfa9c3c26dc5710322e", func := "stopcock/stopcocklaw03.SealFinds", spec := "sealFinds", apart := false, narrowed := true }
def SealFindsUptoSaid : Prop := sealFindsUptoRow.holds Try.pinned (OpenSpec.upto sealFindsSpec)

/-- 'stopcocklaw03.SealThree', WHERE WHAT IT READS IS OF BULK AT MOST 1048576: true; the input reads as it did. -/
def sealThreeUptoRow : OpenClaim := { program := "ytikclgliegfocaa", sum := "ee7c9423f7d9f99b78bc998f65e4eb5490f80991574b1dfa9c3c26dc5710322e", func := "stopcock/stopcocklaw03.SealThree", spec := "sealThree", apart := false, narrowed := true }
def SealThreeUptoSaid : Prop := sealThreeUptoRow.holds Try.pinned (OpenSpec.upto sealThreeSpec)

/-- 'stopcocklaw03.SealPads', WHERE WHAT IT READS IS OF BULK AT MOST 1048576: true; the input reads as it did. -/
def sealPadsUptoRow : OpenClaim := { program := "ytikclgliegfocaa", sum := "ee7c9423f7d9f99b78bc998f65e4eb5490f80991574b1dfa9c3c26dc5710322e", func := "stopcock/stopcocklaw03.SealPads", spec := "sealPads", apart := false, narrowed := true }
def SealPadsUptoSaid : Prop := sealPadsUptoRow.holds Try.pinned (OpenSpec.upto sealPadsSpec)

end Rows
end Go.Proofs.Ytikclgliegfocaa
