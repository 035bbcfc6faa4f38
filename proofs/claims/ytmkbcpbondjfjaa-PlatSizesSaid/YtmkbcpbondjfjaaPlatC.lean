/-
  The laws PlatSizes and PlatSteps: the walks.
-/
import Derived.Test.YtmkbcpbondjfjaaPlatB
namespace Go.Proofs.Ytmkbcpbondjfjaa.G
open Go.Dec Go.RowKit
set_option linter.unusedVariables false
set_option linter.unusedSimpArgs false

def ask (p d : Int) : Bool := decide (0 ≤ p) && decide (p < 16) && decide (1 ≤ d) && decide (d ≤ 4096)
theorem ask_iff {p d : Int} : ask p d = true ↔ 0 ≤ p ∧ p < 16 ∧ 1 ≤ d ∧ d ≤ 4096 := by simp [ask, and_assoc]
theorem ask_false {p d : Int} (h : ¬(0 ≤ p ∧ p < 16 ∧ 1 ≤ d ∧ d ≤ 4096)) : ask p d = false := by
  cases hm : ask p d with
  | false => rfl
  | true => exact (h (ask_iff.1 hm)).elim
def bnd (s k p d : Int) : Int := 2 * d * (p + 1) * (s * k + 2)
theorem bnd_wrap {s k p d : Int} (hh : 6 ≤ s ∧ s ≤ 24 ∧ 2 ≤ k ∧ k ≤ 16) (h : 0 ≤ p ∧ p < 16 ∧ 1 ≤ d ∧ d ≤ 4096) :
    IntKind.i64.wrap ((IntKind.i64.wrap ((IntKind.i64.wrap (2 * d)) * (IntKind.i64.wrap (p + 1)))) * (IntKind.i64.wrap ((IntKind.i64.wrap (s * k)) + 2))) = bnd s k p d := by
  have hp := prod_le hh
  have h1 : 2 * d * (p + 1) ≤ 8192 * 16 := Int.mul_le_mul (by omega) (by omega) (by omega) (by omega)
  have h0 : 0 ≤ 2 * d * (p + 1) := Int.mul_nonneg (by omega) (by omega)
  have h2 : 2 * d * (p + 1) * (s * k + 2) ≤ 131072 * 386 := Int.mul_le_mul (by omega) (by omega) (by omega) (by omega)
  have h3 : 0 ≤ 2 * d * (p + 1) * (s * k + 2) := Int.mul_nonneg h0 (by omega)
  unfold bnd
  rw [w64 (x := 2 * d) (by omega) (by omega), w64 (x := p + 1) (by omega) (by omega), w64 (x := 2 * d * (p + 1)) (by omega) (by omega), w64 (x := s * k) (by omega) (by omega), w64 (x := s * k + 2) (by omega) (by omega), w64 (by omega) (by omega)]
theorem Bound_spec (s k p d : Int) (w : World) : plat_Bound.C s k p d w (Ret fun v w' => v = .tuple #[.int .i64 (if may s k && ask p d then bnd s k p d else 0), .int .i64 (if may s k && ask p d then 0 else 1)] ∧ Ex w w') := by
  apply plat_Bound.ok
  unfold plat_Bound.main
  rintro b w1 rfl rfl
  have ha := At.new w s k 23
  have hx := Ex.alloc w (.cells #[.int .i64 s, .int .i64 k] 23)
  refine ⟨_, rfl, ha.both, ?_⟩
  refine callP.use (Check_spec s k _) ?_
  rintro _ w2 ⟨rfl, h2⟩
  try dsimp only [dI_i64, dI_u8, dI_u16, dI_u32, dB_bool, dS_slice, dP_ptr, dT_tup, dA_agg, dStr_str, dF_f, dC_c, dM_m, optP_some, ga0, ga1, ga2, ga3, ga4, cond_true, cond_false, chk_true, Bool.not_true, Bool.not_false, Option.isNone_none, Option.isNone_some]
  cases hm : may s k with
  | false =>
    simp only [Bool.false_and, Bool.false_eq_true, if_false]
    rw [cond_pos (by decide)]
    exact Ret.mk ⟨rfl, hx.trans h2⟩
  | true =>
    simp only [Bool.true_and, if_true]
    have hh := may_iff.1 hm
    rw [cond_neg (by decide)]
    refine cond_of (fun h => ?_) (fun h => ?_)
    · have := of_decide_eq_true h
      rw [ask_false (by omega)]
      exact Ret.mk ⟨rfl, hx.trans h2⟩
    have h1 := of_decide_eq_false h
    refine cond_of (fun h => ?_) (fun h => ?_)
    · have := of_decide_eq_true h
      rw [ask_false (by omega)]
      exact Ret.mk ⟨rfl, hx.trans h2⟩
    have h3 := of_decide_eq_false h
    refine cond_of (fun h => ?_) (fun h => ?_)
    · have := of_decide_eq_true h
      rw [ask_false (by omega)]
      exact Ret.mk ⟨rfl, hx.trans h2⟩
    have h4 := of_decide_eq_false h
    refine cond_of (fun h => ?_) (fun h => ?_)
    · have := of_decide_eq_true h
      rw [ask_false (by omega)]
      exact Ret.mk ⟨rfl, hx.trans h2⟩
    have h5 := of_decide_eq_false h
    rw [ask_iff.2 (by omega)]
    refine ⟨s, (ha.ex h2).c0, k, (ha.ex h2).c1, Ret.mk ⟨?_, hx.trans h2⟩⟩
    rw [bnd_wrap hh (by omega)]
    rfl

theorem PlatSizes_row (s k p d : Int) (w : World) (hs : -9223372036854775808 ≤ s ∧ s ≤ 9223372036854775807) (hk : -9223372036854775808 ≤ k ∧ k ≤ 9223372036854775807) (hp : -9223372036854775808 ≤ p ∧ p ≤ 9223372036854775807) (hd : -9223372036854775808 ≤ d ∧ d ≤ 9223372036854775807) :
    stopcocklaw06_PlatSizes.C s k p d w (Ret fun v w' => v = .bool true ∧ Ex w w') := by
  apply stopcocklaw06_PlatSizes.ok
  unfold stopcocklaw06_PlatSizes.main
  rintro b w1 rfl rfl
  have ha := At.new w s k 23
  have hx := Ex.alloc w (.cells #[.int .i64 s, .int .i64 k] 23)
  generalize w.alloc (.cells #[.int .i64 s, .int .i64 k] 23) = w1 at ha hx
  refine ⟨_, rfl, ha.both, ?_⟩
  refine callP.use (Sectors_spec s k w1) ?_
  rintro _ w2 ⟨rfl, h2⟩
  try dsimp only [dI_i64, dI_u8, dI_u16, dI_u32, dB_bool, dS_slice, dP_ptr, dT_tup, dA_agg, dStr_str, dF_f, dC_c, dM_m, optP_some, ga0, ga1, ga2, ga3, ga4, cond_true, cond_false, chk_true, Bool.not_true, Bool.not_false, Option.isNone_none, Option.isNone_some]
  have ha2 := ha.ex h2
  refine ⟨_, rfl, ha2.both, ?_⟩
  refine callP.use (Capacity_spec s k w2) ?_
  rintro _ w3 ⟨rfl, h3⟩
  try dsimp only [dI_i64, dI_u8, dI_u16, dI_u32, dB_bool, dS_slice, dP_ptr, dT_tup, dA_agg, dStr_str, dF_f, dC_c, dM_m, optP_some, ga0, ga1, ga2, ga3, ga4, cond_true, cond_false, chk_true, Bool.not_true, Bool.not_false, Option.isNone_none, Option.isNone_some]
  have ha3 := ha2.ex h3
  refine ⟨_, rfl, ha3.both, ?_⟩
  refine callP.use (Bound_spec s k p d w3) ?_
  rintro _ w4 ⟨rfl, h4⟩
  try dsimp only [dI_i64, dI_u8, dI_u16, dI_u32, dB_bool, dS_slice, dP_ptr, dT_tup, dA_agg, dStr_str, dF_f, dC_c, dM_m, optP_some, ga0, ga1, ga2, ga3, ga4, cond_true, cond_false, chk_true, Bool.not_true, Bool.not_false, Option.isNone_none, Option.isNone_some]
  have ha4 := ha3.ex h4
  refine ⟨_, rfl, ha4.both, ?_⟩
  refine callP.use (May_spec s k w4) ?_
  rintro _ w5 ⟨rfl, h5⟩
  try dsimp only [dI_i64, dI_u8, dI_u16, dI_u32, dB_bool, dS_slice, dP_ptr, dT_tup, dA_agg, dStr_str, dF_f, dC_c, dM_m, optP_some, ga0, ga1, ga2, ga3, ga4, cond_true, cond_false, chk_true, Bool.not_true, Bool.not_false, Option.isNone_none, Option.isNone_some]
  have ha5 := ha4.ex h5
  have h05 := (((hx.trans h2).trans h3).trans h4).trans h5
  cases hm : may s k with
  | false =>
    simp only [Bool.false_and, Bool.false_eq_true, if_false]
    rw [cond_pos (by decide)]
    refine callP.use (awake_spec w5) ?_
    rintro _ w6 ⟨rfl, h6⟩
    try dsimp only [dI_i64, dI_u8, dI_u16, dI_u32, dB_bool, dS_slice, dP_ptr, dT_tup, dA_agg, dStr_str, dF_f, dC_c, dM_m, optP_some, ga0, ga1, ga2, ga3, ga4, cond_true, cond_false, chk_true, Bool.not_true, Bool.not_false, Option.isNone_none, Option.isNone_some]
    refine ⟨_, rfl, (ha5.ex h6).both, ?_⟩
    refine callP.use (Check_spec s k w6) ?_
    rintro _ w7 ⟨rfl, h7⟩
    rw [hm]
    try dsimp only [dI_i64, dI_u8, dI_u16, dI_u32, dB_bool, dS_slice, dP_ptr, dT_tup, dA_agg, dStr_str, dF_f, dC_c, dM_m, optP_some, ga0, ga1, ga2, ga3, ga4, cond_true, cond_false, chk_true, Bool.not_true, Bool.not_false, Option.isNone_none, Option.isNone_some]
    rw [cond_pos (by decide), cond_pos (by decide), cond_pos (by decide), cond_pos (by decide), cond_pos (by decide), cond_pos (by decide)]
    exact Ret.mk ⟨rfl, (h05.trans h6).trans h7⟩
  | true =>
    simp only [Bool.true_and, if_true]
    have hh := may_iff.1 hm
    have hpr := prod_le hh
    rw [cond_neg (by decide)]
    refine callP.use (awake_spec w5) ?_
    rintro _ w6 ⟨rfl, h6⟩
    try dsimp only [dI_i64, dI_u8, dI_u16, dI_u32, dB_bool, dS_slice, dP_ptr, dT_tup, dA_agg, dStr_str, dF_f, dC_c, dM_m, optP_some, ga0, ga1, ga2, ga3, ga4, cond_true, cond_false, chk_true, Bool.not_true, Bool.not_false, Option.isNone_none, Option.isNone_some]
    simp only [Bool.not_true, Bool.not_false, cond_true, cond_false]
    have ha6 := ha5.ex h6
    refine ⟨_, rfl, ha6.both, ?_⟩
    refine callP.use (Check_spec s k w6) ?_
    rintro _ w7 ⟨rfl, h7⟩
    rw [hm]
    try dsimp only [dI_i64, dI_u8, dI_u16, dI_u32, dB_bool, dS_slice, dP_ptr, dT_tup, dA_agg, dStr_str, dF_f, dC_c, dM_m, optP_some, ga0, ga1, ga2, ga3, ga4, cond_true, cond_false, chk_true, Bool.not_true, Bool.not_false, Option.isNone_none, Option.isNone_some]
    have ha7 := ha6.ex h7
    rw [cond_neg (by decide), cond_neg (by decide), cond_neg (by decide)]
    refine ⟨s, ha7.c0, k, ha7.c1, ?_⟩
    rw [w64 (x := s * k) (by omega) (by omega), w64 (by omega) (by omega), cond_neg (by simp)]
    refine ⟨_, rfl, ha7.both, ?_⟩
    refine callP.use (refCapacity_spec s k w7 hh) ?_
    rintro _ w8 ⟨rfl, h8⟩
    try dsimp only [dI_i64, dI_u8, dI_u16, dI_u32, dB_bool, dS_slice, dP_ptr, dT_tup, dA_agg, dStr_str, dF_f, dC_c, dM_m, optP_some, ga0, ga1, ga2, ga3, ga4, cond_true, cond_false, chk_true, Bool.not_true, Bool.not_false, Option.isNone_none, Option.isNone_some]
    have ha8 := ha7.ex h8
    have h08 := ((h05.trans h6).trans h7).trans h8
    have e3 : (s - 4) * k = s * k - 4 * k := Int.sub_mul _ _ _
    have e4 : 2 * k ≤ (s - 4) * k := Int.mul_le_mul_of_nonneg_right (by omega) (by omega)
    rw [cond_neg (by simp), condd_neg (by omega)]
    have no : ask p d = false → stopcocklaw06_PlatSizes.k1 p d w.heap.size (if ask p d = true then bnd s k p d else 0) (if ask p d = true then 0 else 1) true w8 (Ret fun v w' => v = .bool true ∧ Ex w w') := by
      intro hf
      unfold stopcocklaw06_PlatSizes.k1
      rw [hf]
      simp only [Bool.false_eq_true, if_false]
      rw [cond_pos rfl, cond_pos (by decide)]
      exact Ret.mk ⟨rfl, h08⟩
    refine cond_of (fun h => no (ask_false ?_)) (fun h => ?_)
    · have := of_decide_eq_true h
      omega
    have g1 := of_decide_eq_false h
    refine cond_of (fun h => no (ask_false ?_)) (fun h => ?_)
    · have := of_decide_eq_true h
      omega
    have g2 := of_decide_eq_false h
    refine cond_of (fun h => no (ask_false ?_)) (fun h => ?_)
    · have := of_decide_eq_true h
      omega
    have g3 := of_decide_eq_false h
    by_cases g4 : d > 4096
    · rw [decide_eq_true g4]
      exact no (ask_false (by omega))
    · rw [decide_eq_false g4, ask_iff.2 (by omega)]
      unfold stopcocklaw06_PlatSizes.k1
      simp only [if_true]
      rw [cond_neg rfl, cond_pos (by decide)]
      refine ⟨s, ha8.c0, k, ha8.c1, Ret.mk ⟨?_, h08⟩⟩
      rw [bnd_wrap hh (by omega)]
      simp
end Go.Proofs.Ytmkbcpbondjfjaa.G
