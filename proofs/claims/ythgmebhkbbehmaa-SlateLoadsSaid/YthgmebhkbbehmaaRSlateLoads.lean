/-
  The law SlateLoads answers true for every input, and the input reads behind the call as before.
-/
import Derived.Test.YthgmebhkbbehmaaRows
import Derived.Test.YthgmebhkbbehmaaDecS
import Derived.Test.YthgmebhkbbehmaaSlateF
namespace Go.Proofs.Ythgmebhkbbehmaa.slateLoads
open Go.ChangeShapes Go.WideShapes Go.ChangeAt Go.RowKit Go.Dec G
set_option linter.unusedVariables false

theorem own : ownKnob Try.prog.godebug = none := by kernel_rfl
theorem laidOut : laidOutB Try.prog = true := by kernel_rfl

set_option maxRecDepth 100000 in
theorem contract (H : Type) (enc : TypeId × Value → H) (W : World) (base : Nat) (args : Array Value) (ds gs : List (DataW H)) (before : List MemPlace)
    (hval0 : ∀ (j : Nat) t v, Try.f3.params[j]? = some t → args[j]? = some v → Value.okWide Try.prog W .any base t v)
    (hW : DataW.Whole enc Try.prog Try.f3.params.toList Rows.slateLoadsSpec.vars false W args.toList ds gs before)
    (hsz0 : (DataW.weightsEach Try.prog (Try.f3.params.toList ++ (Rows.slateLoadsSpec).plain.varTypes Try.prog) (ds ++ gs)).all (· ≤ reachBytes) = true) :
    Calls Try.prog 3 args W fun e W' => ∃ v, e = .returned v ∧ Rows.slateLoadsSpec.post enc Try.prog Try.f3 false true false false W args v W' := by
  have hval : ∀ (j : Nat) t v, Try.f3.params[j]? = some t → args[j]? = some v → Value.okWide Try.prog W .any base t v := hval0
  have hW' := hW
  obtain ⟨p, q, hA0, hV, rfl, hfz, hnd⟩ := hW
  have hA : DataW.TrodAll enc Try.prog W 0 (fun _ => true) true Try.f3.params.toList args.toList ds p := hA0
  obtain ⟨rfl, rfl⟩ := trodVars_none hV
  have hsz : (DataW.weightsEach Try.prog Try.f3.params.toList ds).all (· ≤ reachBytes) = true := by
    have := hsz0
    rw [show (Rows.slateLoadsSpec).plain.varTypes Try.prog = [] from rfl, List.append_nil, List.append_nil] at this
    exact this
  rw [Try.params3] at hA hval hsz
  have hlt := trodAll_lt _ _ _ _ hA
  have hfin : ∀ W' : World, Below W.heap.size W W' → DataW.TrodAll enc Try.prog W' 0 (fun b => decide (b < W.heap.size)) true Try.f3.params.toList args.toList ds p := by
    intro W' bel
    rw [Try.params3]
    exact trodAll_below laidOut bel _ _ _ _ (by kernel_rfl) hA hlt
  obtain ⟨v0, vs0, d0, ds0, pl0, ql0, hargs, rfl, rfl, h0, r0⟩ := trodAll_cons hA
  obtain ⟨v1, vs1, d1, ds1, pl1, ql1, rfl, rfl, rfl, h1, r1⟩ := trodAll_cons r0
  obtain ⟨rfl, rfl, rfl⟩ := trodAll_nil r1
  obtain rfl : args = #[v0, v1] := by cases args; simp_all
  obtain ⟨p0, n0, c0, rows0, rfl, s0⟩ := arg_slice (r := .sl 1 (.int .u8 .done) (.done)) (b := 24) sizes_said Try.underlying22 (by kernel_rfl) (hval 0 22 v0 rfl rfl) h0 (weights_at hsz (j := 0) rfl rfl)
  obtain ⟨p1, n1, c1, rows1, rfl, s1⟩ := arg_slice (r := .sl 1 (.int .u8 .done) (.done)) (b := 24) sizes_said Try.underlying22 (by kernel_rfl) (hval 1 22 v1 rfl rfl) h1 (weights_at hsz (j := 1) rfl rfl)
  clear hA0 hval0
  refine Calls.mono (Sl.SlateLoads_row p0 n0 c0 rows0 p1 n1 c1 rows1 W s0 s1) fun e W' ⟨v, he, hv, hex⟩ => ?_
  subst he; subst hv
  have bel := hex.below
  exact ⟨_, rfl, _, _, _, [], _, [], hW', trodAll_mk1 (shut_bool Try.underlying4 _), hfin _ bel, rfl, bel.frame _, fun h => by cases h⟩

set_option maxRecDepth 100000 in
theorem lifted (os : Os) (started : os.Started) (H : Type) (enc : TypeId × Value → H) :
    ReturnsInHanded {} Try.checked os 3 .any (Rows.slateLoadsSpec.pre6 enc Try.prog Try.f3 Rows.slateLoadsRow.domain false) (Rows.slateLoadsSpec.post enc Try.prog Try.f3 false true false false) := by
  refine returnsInHanded_of_change_sized (C := Try.checked) own started (by kernel_rfl) Try.func3
    (ChangeSpec.witness6 (enc := enc) (C := Try.checked) false ⟨#[], #[.slice none 0 0, .slice none 0 0], []⟩ 8 (by kernel_rfl) (by kernel_rfl) (by kernel_rfl) (by kernel_rfl)) ?_
  intro W base args ds gs before hval hW _ hsz _
  exact contract H enc W base args ds gs before hval hW hsz

theorem over : Rows.slateLoadsRow.holds Try.pinned (OpenSpec.ofChange Rows.slateLoadsSpec) :=
  OpenClaim.holds_of_wide 3 Try.f3 rfl rfl rfl rfl rfl rfl rfl ⟨rfl, rfl, rfl, rfl, rfl⟩ rfl rfl rfl rfl rfl (by kernel_rfl) Try.func3 (by kernel_rfl)
    (of_decide_eq_true (by kernel_rfl)) (by unfold Func.isWrapper; first | (rw [if_pos (by decide +kernel)]; kernel_rfl) | (rw [if_neg (by decide +kernel)]; exact ⟨rfl, rfl⟩))
    (fun os started H enc _ => lifted os started H enc)

theorem proved : Rows.SlateLoadsSaid := over
#print axioms proved
end Go.Proofs.Ythgmebhkbbehmaa.slateLoads
