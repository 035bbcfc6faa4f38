/-
  The law SealBack answers true for every input of bulk at most 1048576, and the input reads behind the call as before.
-/
import Derived.Test.YtikclgliegfocaaRows
import Derived.Test.YtikclgliegfocaaDecR
import Derived.Test.YtikclgliegfocaaSealD
import Derived.Test.YtikclgliegfocaaBulk
namespace Go.Proofs.Ytikclgliegfocaa.sealBackUpto
open Go.ChangeShapes Go.WideShapes Go.ChangeAt Go.RowKit Go.Dec G
set_option linter.unusedVariables false

theorem own : ownKnob Try.prog.godebug = none := by kernel_rfl
theorem laidOut : laidOutB Try.prog = true := by kernel_rfl

set_option maxRecDepth 100000 in
theorem contract (H : Type) (enc : TypeId × Value → H) (W : World) (base : Nat) (args : Array Value) (ds gs : List (DataW H)) (before : List MemPlace)
    (hval0 : ∀ (j : Nat) t v, Try.f5.params[j]? = some t → args[j]? = some v → Value.okWide Try.prog W .any base t v)
    (hW : DataW.Whole enc Try.prog Try.f5.params.toList Rows.sealBackSpec.vars false W args.toList ds gs before)
    (hsmall : Rows.uptoSmall H (ds ++ gs) = true) :
    Calls Try.prog 5 args W fun e W' => ∃ v, e = .returned v ∧ Rows.sealBackSpec.post enc Try.prog Try.f5 false true false false W args v W' := by
  have hval : ∀ (j : Nat) t v, Try.f5.params[j]? = some t → args[j]? = some v → Value.okWide Try.prog W .any base t v := hval0
  have hW' := hW
  obtain ⟨p, q, hA0, hV, rfl, hfz, hnd⟩ := hW
  have hA : DataW.TrodAll enc Try.prog W 0 (fun _ => true) true Try.f5.params.toList args.toList ds p := hA0
  obtain ⟨rfl, rfl⟩ := trodVars_none hV
  rw [Try.params5] at hA hval
  have hlt := trodAll_lt _ _ _ _ hA
  have hfin : ∀ W' : World, Below W.heap.size W W' → DataW.TrodAll enc Try.prog W' 0 (fun b => decide (b < W.heap.size)) true Try.f5.params.toList args.toList ds p := by
    intro W' bel
    rw [Try.params5]
    exact trodAll_below laidOut bel _ _ _ _ (by kernel_rfl) hA hlt
  obtain ⟨v0, vs0, d0, ds0, pl0, ql0, hargs, rfl, rfl, h0, r0⟩ := trodAll_cons hA
  obtain ⟨v1, vs1, d1, ds1, pl1, ql1, rfl, rfl, rfl, h1, r1⟩ := trodAll_cons r0
  obtain ⟨rfl, rfl, rfl⟩ := trodAll_nil r1
  obtain rfl : args = #[v0, v1] := by cases args; simp_all
  obtain ⟨p0, n0, c0, xs0, rfl, w0, m0⟩ := arg_ints Try.underlying23 Try.underlying5 (by kernel_rfl) (hval 0 23 v0 rfl rfl) h0
  obtain ⟨p1, n1, c1, xs1, rfl, w1, m1⟩ := arg_ints Try.underlying23 Try.underlying5 (by kernel_rfl) (hval 1 23 v1 rfl rfl) h1
  have hb := bulks.most hsmall
  simp only [List.append_nil, Rows.uptoBulkAll] at hb
  have bm0 := bulks.room m0
  have bm1 := bulks.room m1
  clear hA0 hval0
  refine Calls.mono (SealBack_row p0 n0 c0 xs0 p1 n1 c1 xs1 W w0 w1 (by omega)) fun e W' ⟨v, he, hv, hex⟩ => ?_
  subst he; subst hv
  have bel := hex.below
  exact ⟨_, rfl, _, _, _, [], _, [], hW', trodAll_mk1 (shut_bool Try.underlying4 _), hfin _ bel, rfl, bel.frame _, fun h => by cases h⟩

set_option maxRecDepth 100000 in
theorem lifted (os : Os) (started : os.Started) (H : Type) (enc : TypeId × Value → H) (F : Stop.Interp) :
    ReturnsInHanded {} Try.checked os 5 .any ((Rows.OpenSpec.upto Rows.sealBackSpec).pre6 enc Try.prog Try.f5 Rows.sealBackUptoRow.domain false) (((Rows.OpenSpec.upto Rows.sealBackSpec).at F).post enc Try.prog Try.f5 false true false false) := by
  refine returnsInHanded_of_cond (C := Try.checked) (s := Rows.OpenSpec.upto Rows.sealBackSpec) (k := Rows.uptoSmall) rfl own started (by kernel_rfl) Try.func5
    (OpenSpec.witness (enc := enc) (C := Try.checked) (s := Rows.OpenSpec.upto Rows.sealBackSpec) (k := Rows.uptoSmall) rfl false ⟨#[], #[.slice none 0 0, .slice none 0 0], []⟩ 8 (by kernel_rfl) (by kernel_rfl) (by kernel_rfl)
      (x := ([.nil, .nil], [], [])) (by kernel_rfl) rfl (by kernel_rfl)) ?_
  intro W base args ds gs before hval hW _ hk _
  exact contract H enc W base args ds gs before hval hW hk

theorem over : Rows.sealBackUptoRow.holds Try.pinned (Rows.OpenSpec.upto Rows.sealBackSpec) :=
  OpenClaim.holds_of_cond 5 Try.f5 rfl rfl rfl rfl rfl rfl rfl ⟨rfl, rfl, rfl, rfl, rfl⟩ rfl rfl rfl rfl rfl (by kernel_rfl) Try.func5 (by kernel_rfl)
    (of_decide_eq_true (by kernel_rfl)) (by unfold Func.isWrapper; first | (rw [if_pos (by decide +kernel)]; kernel_rfl) | (rw [if_neg (by decide +kernel)]; exact ⟨rfl, rfl⟩))
    (fun os started H enc _ F => lifted os started H enc F)

theorem proved : Rows.SealBackUptoSaid := over
#print axioms proved
end Go.Proofs.Ytikclgliegfocaa.sealBackUpto
