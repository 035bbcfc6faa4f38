/-
  The law BasinPlays answers true for every input of bulk at most 1048576, and the input reads behind the call as before.
-/
import Derived.Test.YticdeknmeafjcaaRows
import Derived.Test.YticdeknmeafjcaaDecS
import Derived.Test.YticdeknmeafjcaaBasinL
import Derived.Test.YticdeknmeafjcaaBulk
namespace Go.Proofs.Yticdeknmeafjcaa.basinPlaysUpto
open Go.ChangeShapes Go.WideShapes Go.ChangeAt Go.RowKit Go.Dec G
set_option linter.unusedVariables false

theorem own : ownKnob Try.prog.godebug = none := by kernel_rfl
theorem laidOut : laidOutB Try.prog = true := by kernel_rfl

set_option maxRecDepth 100000 in
theorem contract (H : Type) (enc : TypeId × Value → H) (W : World) (base : Nat) (args : Array Value) (ds gs : List (DataW H)) (before : List MemPlace)
    (hval0 : ∀ (j : Nat) t v, Try.f5.params[j]? = some t → args[j]? = some v → Value.okWide Try.prog W .any base t v)
    (hW : DataW.Whole enc Try.prog Try.f5.params.toList Rows.basinPlaysSpec.vars false W args.toList ds gs before)
    (hsmall : Rows.uptoSmall H (ds ++ gs) = true) :
    Calls Try.prog 5 args W fun e W' => ∃ v, e = .returned v ∧ Rows.basinPlaysSpec.post enc Try.prog Try.f5 false true false false W args v W' := by
  have hval : ∀ (j : Nat) t v, Try.f5.params[j]? = some t → args[j]? = some v → Value.okWide Try.prog W .any base t v := hval0
  have hW' := hW
  obtain ⟨p, q, hA0, hV, rfl, hfz, hnd⟩ := hW
  have hA : DataW.TrodAll enc Try.prog W 0 (fun _ => true) true Try.f5.params.toList args.toList ds p := hA0
  obtain ⟨rfl, rfl⟩ := trodVars_none hV
  rw [Try.params5] at hA hval
  have hlt := trodAll_lt _ _ _ _ hA
  have hfin : ∀ W' : World, Below W.heap.size W W' → DataW.TrodAll enc Try.prog W' 0 (fun b => decide (b < W.heap.size)) true Try.f5.params.toList args.toList ds p := by
    intro W' bel
    rw [Try.params5]
    exact trodAll_below laidOut bel _ _ _ _ (by kernel_rfl) hA hlt
  obtain ⟨v0, vs0, d0, ds0, pl0, ql0, hargs, rfl, rfl, h0, r0⟩ := trodAll_cons hA
  obtain ⟨v1, vs1, d1, ds1, pl1, ql1, rfl, rfl, rfl, h1, r1⟩ := trodAll_cons r0
  obtain ⟨rfl, rfl, rfl⟩ := trodAll_nil r1
  obtain rfl : args = #[v0, v1] := by cases args; simp_all
  obtain ⟨a0, rfl, w0⟩ := arg_int Try.underlying3 (hval 0 3 v0 rfl rfl) h0
  obtain ⟨p1, n1, c1, rows1, rfl, s1⟩ := arg_slice (r := .int .i64 (.int .i64 (.sl 32 (.int .i64 (.sl 1 (.int .u8 .done) (.done))) (.sl 8 (.int .i64 .done) (.done))))) (b := 64) bulks.sizes Try.underlying41 (by kernel_rfl) (hval 1 41 v1 rfl rfl) h1 (bulks.sizes_at hsmall (j := 1) rfl)
  have hb := bulks.most hsmall
  simp only [List.append_nil, Rows.uptoBulkAll] at hb
  clear hA0 hval0
  refine Calls.mono (BasinPlays_row a0 p1 n1 c1 rows1 W (wf_i64' w0) s1 (by omega)) fun e W' ⟨v, he, hv, hex⟩ => ?_
  subst he; subst hv
  have bel := hex.below
  exact ⟨_, rfl, _, _, _, [], _, [], hW', trodAll_mk1 (shut_bool Try.underlying4 _), hfin _ bel, rfl, bel.frame _, fun h => by cases h⟩

set_option maxRecDepth 100000 in
theorem lifted (os : Os) (started : os.Started) (H : Type) (enc : TypeId × Value → H) (F : Stop.Interp) :
    ReturnsInHanded {} Try.checked os 5 .any ((Rows.OpenSpec.upto Rows.basinPlaysSpec).pre6 enc Try.prog Try.f5 Rows.basinPlaysUptoRow.domain false) (((Rows.OpenSpec.upto Rows.basinPlaysSpec).at F).post enc Try.prog Try.f5 false true false false) := by
  refine returnsInHanded_of_cond (C := Try.checked) (s := Rows.OpenSpec.upto Rows.basinPlaysSpec) (k := Rows.uptoSmall) rfl own started (by kernel_rfl) Try.func5
    (OpenSpec.witness (enc := enc) (C := Try.checked) (s := Rows.OpenSpec.upto Rows.basinPlaysSpec) (k := Rows.uptoSmall) rfl false ⟨#[], #[.int .i64 0, .slice none 0 0], []⟩ 8 (by kernel_rfl) (by kernel_rfl) (by kernel_rfl)
      (x := ([.lit (.int .i64 0), .nil], [], [])) (by kernel_rfl) rfl (by kernel_rfl)) ?_
  intro W base args ds gs before hval hW _ hk _
  exact contract H enc W base args ds gs before hval hW hk

theorem over : Rows.basinPlaysUptoRow.holds Try.pinned (Rows.OpenSpec.upto Rows.basinPlaysSpec) :=
  OpenClaim.holds_of_cond 5 Try.f5 rfl rfl rfl rfl rfl rfl rfl ⟨rfl, rfl, rfl, rfl, rfl⟩ rfl rfl rfl rfl rfl (by kernel_rfl) Try.func5 (by kernel_rfl)
    (of_decide_eq_true (by kernel_rfl)) (by unfold Func.isWrapper; first | (rw [if_pos (by decide +kernel)]; kernel_rfl) | (rw [if_neg (by decide +kernel)]; exact ⟨rfl, rfl⟩))
    (fun os started H enc _ F => lifted os started H enc F)

theorem proved : Rows.BasinPlaysUptoSaid := over
#print axioms proved
end Go.Proofs.Yticdeknmeafjcaa.basinPlaysUpto
