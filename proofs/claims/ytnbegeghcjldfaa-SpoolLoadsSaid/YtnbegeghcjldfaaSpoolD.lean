/-
  awake, and the law SpoolSectors.
-/
import Derived.Test.YtnbegeghcjldfaaSpoolC
namespace Go.Proofs.Ytnbegeghcjldfaa.G
open Go.Dec Go.RowKit
set_option linter.unusedVariables false
set_option linter.unusedSimpArgs false

def two : List Dl := [⟨1, 0, 0, 3, 0, 0⟩, ⟨2, 0, 0, 0, 0, 0⟩]
theorem two_cells : dcells two = [.int .i64 1, .int .i64 0, .int .i64 0, .int .i64 3, .complex .f64 0 0, .int .i64 2, .int .i64 0, .int .i64 0, .int .i64 0, .complex .f64 0 0] := by
  simp [dcells, two, Dl.cells, fl_zero]
theorem two_wf : ∀ d ∈ two, d.wf := fun d hd => by
  simp only [two, List.mem_cons, List.not_mem_nil, or_false] at hd
  rcases hd with rfl | rfl <;> exact ⟨⟨by decide, by decide⟩, ⟨by decide, by decide⟩⟩
theorem two_ok : ∀ d ∈ two, chk0 d = 0 := fun d hd => by
  simp only [two, List.mem_cons, List.not_mem_nil, or_false] at hd
  rcases hd with rfl | rfl <;> decide
def dev1 : Bas.Dev := Bas.put1 (Bas.fresh 60) ((24 + 0 : Nat) : Int) (sealed (secB 9 0 two))
theorem dev1_load : loadP 9 dev1.now 16 0 = (two, 1) := by kernel_rfl
theorem dev1_off : dev1.off = false := rfl
theorem dev1_len : dev1.now.length = 60 := by kernel_rfl
theorem awake_spec (w : World) : stopcocklaw15_awake.C w (Ret fun v w' => v = .bool true ∧ Ex w w') := by
  apply stopcocklaw15_awake.ok
  unfold stopcocklaw15_awake.main
  refine callP.use (Bas.New_spec 60 w (by omega)) ?_
  rintro _ w1 ⟨pd, D, rfl, x1, h1⟩
  try dsimp only [dI_i64, dI_u8, dI_u16, dI_u32, dB_bool, dS_slice, dP_ptr, dT_tup, dA_agg, dStr_str, dF_f, dC_c, dM_m, optP_some, ga0, ga1, ga2, ga3, ga4, cond_true, cond_false, chk_true, Bool.not_true, Bool.not_false, Option.isNone_none, Option.isNone_some, List.toList_toArray]
  rintro b1 w2 rfl rfl
  have o1 := Owns.alloc (w := w1) (dcells two) ty_api_Delta 5 2 (by rw [dcells_len]; rfl)
  have x2 := Ex.alloc w1 (.cells (dcells two).toArray ty_api_Delta)
  rw [two_cells] at x2
  rw [two_cells] at o1
  generalize w1.alloc (.cells #[.int .i64 1, .int .i64 0, .int .i64 0, .int .i64 3, .complex .f64 0 0, .int .i64 2, .int .i64 0, .int .i64 0, .int .i64 0, .complex .f64 0 0] ty_api_Delta) = w2 at o1 x2 ⊢
  rw [← two_cells] at o1
  have h2 := h1.ex x2
  have hg : Bas.Good (Bas.fresh 60) := Bas.fresh_good (by omega)
  refine callP.use (Save_spec (u := 0) h2 hg (x1.trans x2).size (by rfl) rfl rfl (by decide) (seq := 9) (by omega) (by omega) o1 rfl (by omega) two_wf two_ok) ?_
  rintro _ w4 ⟨rfl, D', h4, hg4, k4, hD'⟩
  try dsimp only [dI_i64, dI_u8, dI_u16, dI_u32, dB_bool, dS_slice, dP_ptr, dT_tup, dA_agg, dStr_str, dF_f, dC_c, dM_m, optP_some, ga0, ga1, ga2, ga3, ga4, cond_true, cond_false, chk_true, Bool.not_true, Bool.not_false, Option.isNone_none, Option.isNone_some, List.toList_toArray]
  have k42 : Ex w w4 := (x1.trans x2).then k4 fun i hi => (h2.typed hi).2.1
  have hd : Bas.DevIs w4 w.heap.size pd dev1 D' := h4
  have hL := Load_spec hd hg4 dev1_off dev1_len 9 (by omega)
  rw [dev1_load] at hL
  clear hd h4 hD' k4 hg4
  refine callP.use hL ?_
  rintro _ w6 ⟨q, c, rfl, o6, x6⟩
  try dsimp only [dI_i64, dI_u8, dI_u16, dI_u32, dB_bool, dS_slice, dP_ptr, dT_tup, dA_agg, dStr_str, dF_f, dC_c, dM_m, optP_some, ga0, ga1, ga2, ga3, ga4, cond_true, cond_false, chk_true, Bool.not_true, Bool.not_false, Option.isNone_none, Option.isNone_some, List.toList_toArray]
  rw [cond_pos (by rfl), cond_pos (by rfl), cond_pos (by rfl), cond_pos (by rfl), cond_pos (by rfl), cond_pos (by rfl)]
  refine chk_of (by decide) ?_
  obtain ⟨a, rfl, r⟩ := o6.cells.many (j := 5) (v := .int .i64 2) (by rfl)
  try dsimp only [dI_i64, dI_u8, dI_u16, dI_u32, dB_bool, dS_slice, dP_ptr, dT_tup, dA_agg, dStr_str, dF_f, dC_c, dM_m, optP_some, ga0, ga1, ga2, ga3, ga4, cond_true, cond_false, chk_true, Bool.not_true, Bool.not_false, Option.isNone_none, Option.isNone_some, List.toList_toArray]
  exact ⟨2, r, Ret.mk ⟨rfl, k42.trans x6⟩⟩

theorem SpoolSectors_row (n : Int) (w : World) (hn : -9223372036854775808 ≤ n ∧ n ≤ 9223372036854775807) : stopcocklaw15_SpoolSectors.C n w (Ret fun v w' => v = .bool true ∧ Ex w w') := by
  have hsec : spool_Sectors.C n w (Ret fun v w' => v = .tuple #[.int .i64 (if 0 ≤ n ∧ n ≤ 96 then (n + 5) / 6 else 0), .int .i64 (if 0 ≤ n ∧ n ≤ 96 then 0 else 1)] ∧ w' = w) := by
    apply spool_Sectors.ok
    unfold spool_Sectors.main
    refine cond_of (fun h => ?_) (fun h => ?_)
    · have h := of_decide_eq_true h
      exact Ret.mk ⟨by rw [if_neg (by omega), if_neg (by omega)], rfl⟩
    have h := of_decide_eq_false h
    refine cond_of (fun h2 => ?_) (fun h2 => ?_)
    · have h2 := of_decide_eq_true h2
      exact Ret.mk ⟨by rw [if_neg (by omega), if_neg (by omega)], rfl⟩
    have h2 := of_decide_eq_false h2
    refine Ret.mk ⟨?_, rfl⟩
    rw [if_pos (by omega), if_pos (by omega), w64 (x := n + 6) (by omega) (by omega), w64 (x := n + 6 - 1) (by omega) (by omega), Int.tdiv_eq_ediv_of_nonneg (by omega), w64 (by omega) (by omega)]
    have : n + 6 - 1 = n + 5 := by omega
    rw [this]
  apply stopcocklaw15_SpoolSectors.ok
  unfold stopcocklaw15_SpoolSectors.main
  refine callP.use hsec ?_
  rintro _ _ ⟨rfl, rfl⟩
  try dsimp only [dI_i64, dI_u8, dI_u16, dI_u32, dB_bool, dS_slice, dP_ptr, dT_tup, dA_agg, dStr_str, dF_f, dC_c, dM_m, optP_some, ga0, ga1, ga2, ga3, ga4, cond_true, cond_false, chk_true, Bool.not_true, Bool.not_false, Option.isNone_none, Option.isNone_some, List.toList_toArray]
  have bad : ∀ (w : World), ¬ (0 ≤ n ∧ n ≤ 96) → stopcocklaw15_SpoolSectors.k1 n (if 0 ≤ n ∧ n ≤ 96 then (n + 5) / 6 else 0) (if 0 ≤ n ∧ n ≤ 96 then 0 else 1) true w (Ret fun v w' => v = .bool true ∧ Ex w w') := by
    intro w hb
    rw [if_neg hb, if_neg hb]
    unfold stopcocklaw15_SpoolSectors.k1
    rw [cond_pos (by rfl)]
    refine callP.use (awake_spec w) ?_
    rintro _ w3 ⟨rfl, x3⟩
    try dsimp only [dI_i64, dI_u8, dI_u16, dI_u32, dB_bool, dS_slice, dP_ptr, dT_tup, dA_agg, dStr_str, dF_f, dC_c, dM_m, optP_some, ga0, ga1, ga2, ga3, ga4, cond_true, cond_false, chk_true, Bool.not_true, Bool.not_false, Option.isNone_none, Option.isNone_some, List.toList_toArray]
    rw [cond_pos (by rfl)]
    exact Ret.mk ⟨rfl, x3⟩
  refine cond_of (fun h => ?_) (fun h => ?_)
  · have h := of_decide_eq_true h
    exact bad _ (by omega)
  have h := of_decide_eq_false h
  by_cases h2 : n > 96
  · rw [decide_eq_true h2]
    exact bad _ (by omega)
  · rw [decide_eq_false h2, if_pos (by omega), if_pos (by omega)]
    unfold stopcocklaw15_SpoolSectors.k1
    rw [cond_neg (by rfl)]
    refine callP.use (awake_spec _) ?_
    rintro _ w3 ⟨rfl, x3⟩
    try dsimp only [dI_i64, dI_u8, dI_u16, dI_u32, dB_bool, dS_slice, dP_ptr, dT_tup, dA_agg, dStr_str, dF_f, dC_c, dM_m, optP_some, ga0, ga1, ga2, ga3, ga4, cond_true, cond_false, chk_true, Bool.not_true, Bool.not_false, Option.isNone_none, Option.isNone_some, List.toList_toArray]
    rw [cond_pos (by rfl), w64 (x := 6 * ((n + 5) / 6)) (by omega) (by omega), w64 (x := n + 6) (by omega) (by omega), condd_pos (by omega), decide_eq_true (by omega)]
    exact Ret.mk ⟨rfl, x3⟩
end Go.Proofs.Ytnbegeghcjldfaa.G
