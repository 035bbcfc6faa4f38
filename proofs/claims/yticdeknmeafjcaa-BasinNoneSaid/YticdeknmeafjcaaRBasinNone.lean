/-
  The law BasinNone answers true for every input, and the input reads behind the call as before.
-/
import Derived.Test.YticdeknmeafjcaaRows
import Derived.Test.YticdeknmeafjcaaDecS
import Derived.Test.YticdeknmeafjcaaBasinD
namespace Go.Proofs.Yticdeknmeafjcaa.basinNone
open Go.ChangeShapes Go.WideShapes Go.ChangeAt Go.RowKit Go.Dec G
set_option linter.unusedVariables false

theorem own : ownKnob Try.prog.godebug = none := by kernel_rfl
theorem laidOut : laidOutB Try.prog = true := by kernel_rfl

set_option maxRecDepth 100000 in
theorem contract (H : Type) (enc : TypeId × Value → H) (W : World) (base : Nat) (args : Array Value) (ds gs : List (DataW H)) (before : List MemPlace)
    (hval0 : ∀ (j : Nat) t v, Try.f7.params[j]? = some t → args[j]? = some v → Value.okWide Try.prog W .any base t v)
    (hW : DataW.Whole enc Try.prog Try.f7.params.toList Rows.basinNoneSpec.vars false W args.toList ds gs before)
    (hsz0 : (DataW.weightsEach Try.prog (Try.f7.params.toList ++ (Rows.basinNoneSpec).plain.varTypes Try.prog) (ds ++ gs)).all (· ≤ reachBytes) = true) :
    Calls Try.prog 7 args W fun e W' => ∃ v, e = .returned v ∧ Rows.basinNoneSpec.post enc Try.prog Try.f7 false true false false W args v W' := by
  have hval : ∀ (j : Nat) t v, Try.f7.params[j]? = some t → args[j]? = some v → Value.okWide Try.prog W .any base t v := hval0
  have hW' := hW
  obtain ⟨p, q, hA0, hV, rfl, hfz, hnd⟩ := hW
  have hA : DataW.TrodAll enc Try.prog W 0 (fun _ => true) true Try.f7.params.toList args.toList ds p := hA0
  obtain ⟨rfl, rfl⟩ := trodVars_none hV
  have hsz : (DataW.weightsEach Try.prog Try.f7.params.toList ds).all (· ≤ reachBytes) = true := by
    have := hsz0
    rw [show (Rows.basinNoneSpec).plain.varTypes Try.prog = [] from rfl, List.append_nil, List.append_nil] at this
    exact this
  rw [Try.params7] at hA hval hsz
  have hlt := trodAll_lt _ _ _ _ hA
  have hfin : ∀ W' : World, Below W.heap.size W W' → DataW.TrodAll enc Try.prog W' 0 (fun b => decide (b < W.heap.size)) true Try.f7.params.toList args.toList ds p := by
    intro W' bel
    rw [Try.params7]
    exact trodAll_below laidOut bel _ _ _ _ (by kernel_rfl) hA hlt
  obtain ⟨v0, vs0, d0, ds0, pl0, ql0, hargs, rfl, rfl, h0, r0⟩ := trodAll_cons hA
  obtain ⟨v1, vs1, d1, ds1, pl1, ql1, rfl, rfl, rfl, h1, r1⟩ := trodAll_cons r0
  obtain ⟨v2, vs2, d2, ds2, pl2, ql2, rfl, rfl, rfl, h2, r2⟩ := trodAll_cons r1
  obtain ⟨rfl, rfl, rfl⟩ := trodAll_nil r2
  obtain rfl : args = #[v0, v1, v2] := by cases args; simp_all
  obtain ⟨a0, rfl, w0⟩ := arg_int Try.underlying3 (hval 0 3 v0 rfl rfl) h0
  obtain ⟨p1, n1, c1, rows1, rfl, s1⟩ := arg_slice (r := .int .i64 (.sl 1 (.int .u8 .done) (.done))) (b := 32) sizes_said Try.underlying44 (by kernel_rfl) (hval 1 44 v1 rfl rfl) h1 (weights_at hsz (j := 1) rfl rfl)
  obtain ⟨p2, n2, c2, xs2, rfl, w2, m2⟩ := arg_ints Try.underlying23 Try.underlying3 (by kernel_rfl) (hval 2 23 v2 rfl rfl) h2
  clear hA0 hval0
  refine Calls.mono (BasinNone_row a0 p1 n1 c1 rows1 p2 n2 c2 xs2 W (wf_i64' w0) s1 w2 (m2.sized hsz (j := 2) rfl rfl Try.underlying23 8 (by kernel_rfl))) fun e W' ⟨v, he, hv, hex⟩ => ?_
  subst he; subst hv
  have bel := hex.below
  exact ⟨_, rfl, _, _, _, [], _, [], hW', trodAll_mk1 (shut_bool Try.underlying4 _), hfin _ bel, rfl, bel.frame _, fun h => by cases h⟩

set_option maxRecDepth 100000 in
theorem lifted (os : Os) (started : os.Started) (H : Type) (enc : TypeId × Value → H) :
    ReturnsInHanded {} Try.checked os 7 .any (Rows.basinNoneSpec.pre6 enc Try.prog Try.f7 Rows.basinNoneRow.domain false) (Rows.basinNoneSpec.post enc Try.prog Try.f7 false true false false) := by
  refine returnsInHanded_of_change_sized (C := Try.checked) own started (by kernel_rfl) Try.func7
    (ChangeSpec.witness6 (enc := enc) (C := Try.checked) false ⟨#[], #[.int .i64 0, .slice none 0 0, .slice none 0 0], []⟩ 8 (by kernel_rfl) (by kernel_rfl) (by kernel_rfl) (by kernel_rfl)) ?_
  intro W base args ds gs before hval hW _ hsz _
  exact contract H enc W base args ds gs before hval hW hsz

theorem over : Rows.basinNoneRow.holds Try.pinned (OpenSpec.ofChange Rows.basinNoneSpec) :=
  OpenClaim.holds_of_wide 7 Try.f7 rfl rfl rfl rfl rfl rfl rfl ⟨rfl, rfl, rfl, rfl, rfl⟩ rfl rfl rfl rfl rfl (by kernel_rfl) Try.func7 (by kernel_rfl)
    (of_decide_eq_true (by kernel_rfl)) (by unfold Func.isWrapper; first | (rw [if_pos (by decide +kernel)]; kernel_rfl) | (rw [if_neg (by decide +kernel)]; exact ⟨rfl, rfl⟩))
    (fun os started H enc _ => lifted os started H enc)

theorem proved : Rows.BasinNoneSaid := over
#print axioms proved
end Go.Proofs.Yticdeknmeafjcaa.basinNone
