/-
  Sectors of places; the simplest facts; the laws PlatGrows, PlatSizes, PlatSteps: the walks.
-/
import Derived.Test.YtmkbcpbondjfjaaPlatA
namespace Go.Proofs.Ytmkbcpbondjfjaa.G
open Go.Dec Go.RowKit
set_option linter.unusedVariables false
set_option linter.unusedSimpArgs false

def nr (n : Nat) : Nat := FloatKind.f64.nearest (n : Int)
theorem nr_facts {n : Nat} (h : n ≤ 24) : fCmp .geq (nr n) 0 = true ∧ fCmp .lss (nr n) (FloatKind.f64.nearest 24) = decide (n < 24) ∧ fCmp .lss (nr n) (FloatKind.f64.nearest 16) = decide (n < 16) ∧ (FloatKind.f64.decode (nr n)).toInt .zero = some (n : Int) ∧ fCmp .eql (nr n) (nr n) = true := near_all ⟨n, by omega⟩
theorem i64_min : IntKind.i64.min = -9223372036854775808 := by decide

theorem within_spec (n m : Nat) (hn : n ≤ 24) (hm : m = 24 ∨ m = 16) (w : World) : axis_within.C (nr n) m w (Ret fun v w' => v = .bool (decide (n < m)) ∧ Ex w w') := by
  apply axis_within.ok
  unfold axis_within.main
  obtain ⟨f1, f2, f3, f4, f5⟩ := nr_facts hn
  rw [f1, cond_pos rfl]
  have f6 : fCmp .lss (nr n) (FloatKind.f64.nearest (m : Int)) = decide (n < m) := by
    rcases hm with rfl | rfl
    · exact f2
    · exact f3
  rw [f6]
  refine cond_of (fun h => ?_) (fun h => ?_)
  · rw [h]
    refine optP_of f4 (chkd_of (by rw [i64_min]; omega) (chkd_of (by rw [i64_max]; omega) (Ret.mk ⟨?_, Ex.refl w⟩)))
    exact congrArg Value.bool f5
  · rw [h]
    exact Ret.mk ⟨rfl, Ex.refl w⟩
theorem Whole_spec (a b : Nat) (ha : a ≤ 24) (hb : b ≤ 24) (w : World) : axis_Whole.C (nr a) (nr b) w (Ret fun v w' => v = .bool (decide (a < 24) && decide (b < 16)) ∧ Ex w w') := by
  apply axis_Whole.ok
  unfold axis_Whole.main
  refine callP.use (within_spec a 24 ha (.inl rfl) w) ?_
  rintro _ w1 ⟨rfl, h1⟩
  try dsimp only [dI_i64, dI_u8, dI_u16, dI_u32, dB_bool, dS_slice, dP_ptr, dT_tup, dA_agg, dStr_str, dF_f, dC_c, dM_m, optP_some, ga0, ga1, ga2, ga3, ga4, cond_true, cond_false, chk_true, Bool.not_true, Bool.not_false, Option.isNone_none, Option.isNone_some]
  refine cond_of (fun h => ?_) (fun h => ?_)
  · refine callP.use (within_spec b 16 hb (.inr rfl) w1) ?_
    rintro _ w2 ⟨rfl, h2⟩
    try dsimp only [dI_i64, dI_u8, dI_u16, dI_u32, dB_bool, dS_slice, dP_ptr, dT_tup, dA_agg, dStr_str, dF_f, dC_c, dM_m, optP_some, ga0, ga1, ga2, ga3, ga4, cond_true, cond_false, chk_true, Bool.not_true, Bool.not_false, Option.isNone_none, Option.isNone_some]
    rw [h]
    exact Ret.mk ⟨rfl, h1.trans h2⟩
  · rw [h]
    exact Ret.mk ⟨rfl, h1⟩
theorem Parts_spec (a b : Nat) (ha : a < 24) (hb : b < 16) (w : World) : axis_Parts.C (nr a) (nr b) w (Ret fun v w' => v = .tuple #[.int .i64 a, .int .i64 b, .int .i64 0] ∧ Ex w w') := by
  apply axis_Parts.ok
  unfold axis_Parts.main
  refine callP.use (Whole_spec a b (by omega) (by omega) w) ?_
  rintro _ w1 ⟨rfl, h1⟩
  try dsimp only [dI_i64, dI_u8, dI_u16, dI_u32, dB_bool, dS_slice, dP_ptr, dT_tup, dA_agg, dStr_str, dF_f, dC_c, dM_m, optP_some, ga0, ga1, ga2, ga3, ga4, cond_true, cond_false, chk_true, Bool.not_true, Bool.not_false, Option.isNone_none, Option.isNone_some]
  rw [decide_eq_true ha, decide_eq_true hb, cond_neg (by decide)]
  refine optP_of (nr_facts (by omega)).2.2.2.1 (chkd_of (by rw [i64_min]; omega) (chkd_of (by rw [i64_max]; omega) ?_))
  refine optP_of (nr_facts (by omega)).2.2.2.1 (chkd_of (by rw [i64_min]; omega) (chkd_of (by rw [i64_max]; omega) (Ret.mk ⟨rfl, h1⟩)))
theorem width_spec (k : Int) (hk : 1 ≤ k ∧ k ≤ 16) (w : World) : axis_width.C k w (Ret fun v w' => v = .bool true ∧ Ex w w') := by
  apply axis_width.ok
  unfold axis_width.main
  rw [condd_pos (by omega), decide_eq_true hk.2]
  exact Ret.mk ⟨rfl, Ex.refl w⟩
theorem Flat_spec (a b : Nat) (k : Int) (ha : a < 24) (hb : (b : Int) < k) (hk : 1 ≤ k ∧ k ≤ 16) (w : World) : axis_Flat.C (nr a) (nr b) k w (Ret fun v w' => v = .tuple #[.int .i64 (a * k + b), .int .i64 0] ∧ Ex w w') := by
  apply axis_Flat.ok
  unfold axis_Flat.main
  refine callP.use (Parts_spec a b ha (by omega) w) ?_
  rintro _ w1 ⟨rfl, h1⟩
  try dsimp only [dI_i64, dI_u8, dI_u16, dI_u32, dB_bool, dS_slice, dP_ptr, dT_tup, dA_agg, dStr_str, dF_f, dC_c, dM_m, optP_some, ga0, ga1, ga2, ga3, ga4, cond_true, cond_false, chk_true, Bool.not_true, Bool.not_false, Option.isNone_none, Option.isNone_some]
  refine callP.use (width_spec k hk w1) ?_
  rintro _ w2 ⟨rfl, h2⟩
  try dsimp only [dI_i64, dI_u8, dI_u16, dI_u32, dB_bool, dS_slice, dP_ptr, dT_tup, dA_agg, dStr_str, dF_f, dC_c, dM_m, optP_some, ga0, ga1, ga2, ga3, ga4, cond_true, cond_false, chk_true, Bool.not_true, Bool.not_false, Option.isNone_none, Option.isNone_some]
  have hm : (a : Int) * k ≤ 24 * 16 := Int.mul_le_mul (by omega) hk.2 (by omega) (by omega)
  have hm0 : 0 ≤ (a : Int) * k := Int.mul_nonneg (by omega) (by omega)
  simp only [Bool.not_true, Bool.not_false, cond_true, cond_false]
  rw [cond_neg (by decide), condd_neg (by omega), w64 (x := (a : Int) * k) (by omega) (by omega), w64 (by omega) (by omega)]
  exact Ret.mk ⟨rfl, h1.trans h2⟩
theorem At_spec (s k : Int) (hh : 6 ≤ s ∧ s ≤ 24 ∧ 2 ≤ k ∧ k ≤ 16) (a b : Nat) (ha : (a : Int) < s) (hb : (b : Int) < k) (w : World) :
    plat_At.C s k (nr a) (nr b) w (Ret fun v w' => v = .tuple #[.int .i64 (40 + (a * k + b)), .int .i64 0] ∧ Ex w w') := by
  apply plat_At.ok
  unfold plat_At.main
  rintro b1 w1 rfl rfl
  have hat := At.new w s k 23
  have hx := Ex.alloc w (.cells #[.int .i64 s, .int .i64 k] 23)
  refine ⟨_, rfl, hat.both, ?_⟩
  refine callP.use (Check_spec s k _) ?_
  rintro _ w2 ⟨rfl, h2⟩
  rw [may_iff.2 hh]
  try dsimp only [dI_i64, dI_u8, dI_u16, dI_u32, dB_bool, dS_slice, dP_ptr, dT_tup, dA_agg, dStr_str, dF_f, dC_c, dM_m, optP_some, ga0, ga1, ga2, ga3, ga4, cond_true, cond_false, chk_true, Bool.not_true, Bool.not_false, Option.isNone_none, Option.isNone_some]
  rw [cond_neg (by decide)]
  refine ⟨k, (hat.ex h2).c1, ?_⟩
  refine callP.use (Flat_spec a b k (by omega) hb (by omega) w2) ?_
  rintro _ w3 ⟨rfl, h3⟩
  try dsimp only [dI_i64, dI_u8, dI_u16, dI_u32, dB_bool, dS_slice, dP_ptr, dT_tup, dA_agg, dStr_str, dF_f, dC_c, dM_m, optP_some, ga0, ga1, ga2, ga3, ga4, cond_true, cond_false, chk_true, Bool.not_true, Bool.not_false, Option.isNone_none, Option.isNone_some]
  rw [cond_neg (by decide)]
  have hp := prod_le hh
  have h1 : ((a : Int) + 1) * k ≤ s * k := Int.mul_le_mul_of_nonneg_right (by omega) (by omega)
  rw [Int.add_mul, Int.one_mul] at h1
  have hm0 : 0 ≤ (a : Int) * k := Int.mul_nonneg (by omega) (by omega)
  refine ⟨s, ((hat.ex h2).ex h3).c0, k, ((hat.ex h2).ex h3).c1, ?_⟩
  rw [w64 (x := s * k) (by omega) (by omega), condd_neg (by omega), w64 (by omega) (by omega)]
  exact Ret.mk ⟨rfl, (hx.trans h2).trans h3⟩

theorem awake_spec (w : World) : stopcocklaw06_awake.C w (Ret fun v w' => v = .bool true ∧ Ex w w') := by
  apply stopcocklaw06_awake.ok
  unfold stopcocklaw06_awake.main
  refine callP.use (Sectors_spec 8 4 w) ?_
  rintro _ w1 ⟨rfl, h1⟩
  have e1 : may 8 4 = true := by decide
  rw [e1]
  try dsimp only [dI_i64, dI_u8, dI_u16, dI_u32, dB_bool, dS_slice, dP_ptr, dT_tup, dA_agg, dStr_str, dF_f, dC_c, dM_m, optP_some, ga0, ga1, ga2, ga3, ga4, cond_true, cond_false, chk_true, Bool.not_true, Bool.not_false, Option.isNone_none, Option.isNone_some]
  have e2 : (4611686018427387904 : Nat) = nr 2 := by decide +kernel
  have e3 : (4613937818241073152 : Nat) = nr 3 := by decide +kernel
  rw [e2, e3]
  refine callP.use (At_spec 8 4 (by omega) 2 3 (by omega) (by omega) w1) ?_
  rintro _ w2 ⟨rfl, h2⟩
  try dsimp only [dI_i64, dI_u8, dI_u16, dI_u32, dB_bool, dS_slice, dP_ptr, dT_tup, dA_agg, dStr_str, dF_f, dC_c, dM_m, optP_some, ga0, ga1, ga2, ga3, ga4, cond_true, cond_false, chk_true, Bool.not_true, Bool.not_false, Option.isNone_none, Option.isNone_some]
  refine callP.use (Capacity_spec 8 4 w2) ?_
  rintro _ w3 ⟨rfl, h3⟩
  rw [e1]
  try dsimp only [dI_i64, dI_u8, dI_u16, dI_u32, dB_bool, dS_slice, dP_ptr, dT_tup, dA_agg, dStr_str, dF_f, dC_c, dM_m, optP_some, ga0, ga1, ga2, ga3, ga4, cond_true, cond_false, chk_true, Bool.not_true, Bool.not_false, Option.isNone_none, Option.isNone_some]
  rw [cond_pos (by decide), cond_pos (by decide), cond_pos (by decide), cond_pos (by decide), cond_pos (by decide)]
  exact Ret.mk ⟨congrArg Value.bool (by decide), (h1.trans h2).trans h3⟩

theorem PlatGrows_row (s k : Int) (w : World) (hs : -9223372036854775808 ≤ s ∧ s ≤ 9223372036854775807) (hk : -9223372036854775808 ≤ k ∧ k ≤ 9223372036854775807) :
    stopcocklaw06_PlatGrows.C s k w (Ret fun v w' => v = .bool true ∧ Ex w w') := by
  apply stopcocklaw06_PlatGrows.ok
  unfold stopcocklaw06_PlatGrows.main
  rintro b w1 rfl rfl
  have ha := At.new w s k 23
  have hx := Ex.alloc w (.cells #[.int .i64 s, .int .i64 k] 23)
  generalize w.alloc (.cells #[.int .i64 s, .int .i64 k] 23) = w1 at ha hx
  have out : callP Try.prog 6 #[] w1 (fun v w' => dB v fun x => Ret (fun v w' => v = .bool true ∧ Ex w w') (.returned (Value.bool x)) w') (fun ch w' => Ret (fun v w' => v = .bool true ∧ Ex w w') (.panicked ch) w') := by
    refine callP.use (awake_spec w1) ?_
    rintro _ w8 ⟨rfl, h8⟩
    try dsimp only [dI_i64, dI_u8, dI_u16, dI_u32, dB_bool, dS_slice, dP_ptr, dT_tup, dA_agg, dStr_str, dF_f, dC_c, dM_m, optP_some, ga0, ga1, ga2, ga3, ga4, cond_true, cond_false, chk_true, Bool.not_true, Bool.not_false, Option.isNone_none, Option.isNone_some]
    exact Ret.mk ⟨rfl, hx.trans h8⟩
  refine ⟨s, ha.c0, cond_of (fun _ => out) (fun g1 => ?_)⟩
  refine ⟨k, ha.c1, cond_of (fun _ => out) (fun g2 => ?_)⟩
  refine ⟨s, ha.c0, cond_of (fun _ => out) (fun g3 => ?_)⟩
  refine ⟨k, ha.c1, cond_of (fun _ => out) (fun g4 => ?_)⟩
  have g1 := of_decide_eq_false g1
  have g2 := of_decide_eq_false g2
  have g3 := of_decide_eq_false g3
  have g4 := of_decide_eq_false g4
  refine ⟨_, rfl, ha.both, ?_⟩
  refine callP.use (Capacity_spec s k w1) ?_
  rintro _ w2 ⟨rfl, h2⟩
  rw [may_iff.2 (by omega)]
  try dsimp only [dI_i64, dI_u8, dI_u16, dI_u32, dB_bool, dS_slice, dP_ptr, dT_tup, dA_agg, dStr_str, dF_f, dC_c, dM_m, optP_some, ga0, ga1, ga2, ga3, ga4, cond_true, cond_false, chk_true, Bool.not_true, Bool.not_false, Option.isNone_none, Option.isNone_some]
  have ha2 := ha.ex h2
  refine ⟨s, ha2.c0, k, ha2.c1, ?_⟩
  rw [w64 (x := s + 1) (by omega) (by omega)]
  refine callP.use (Capacity_spec (s + 1) k w2) ?_
  rintro _ w3 ⟨rfl, h3⟩
  rw [may_iff.2 (by omega)]
  try dsimp only [dI_i64, dI_u8, dI_u16, dI_u32, dB_bool, dS_slice, dP_ptr, dT_tup, dA_agg, dStr_str, dF_f, dC_c, dM_m, optP_some, ga0, ga1, ga2, ga3, ga4, cond_true, cond_false, chk_true, Bool.not_true, Bool.not_false, Option.isNone_none, Option.isNone_some]
  have ha3 := ha2.ex h3
  refine ⟨s, ha3.c0, k, ha3.c1, ?_⟩
  rw [w64 (x := k + 1) (by omega) (by omega)]
  refine callP.use (Capacity_spec s (k + 1) w3) ?_
  rintro _ w4 ⟨rfl, h4⟩
  rw [may_iff.2 (by omega)]
  try dsimp only [dI_i64, dI_u8, dI_u16, dI_u32, dB_bool, dS_slice, dP_ptr, dT_tup, dA_agg, dStr_str, dF_f, dC_c, dM_m, optP_some, ga0, ga1, ga2, ga3, ga4, cond_true, cond_false, chk_true, Bool.not_true, Bool.not_false, Option.isNone_none, Option.isNone_some]
  have ha4 := ha3.ex h4
  refine callP.use (awake_spec w4) ?_
  rintro _ w5 ⟨rfl, h5⟩
  try dsimp only [dI_i64, dI_u8, dI_u16, dI_u32, dB_bool, dS_slice, dP_ptr, dT_tup, dA_agg, dStr_str, dF_f, dC_c, dM_m, optP_some, ga0, ga1, ga2, ga3, ga4, cond_true, cond_false, chk_true, Bool.not_true, Bool.not_false, Option.isNone_none, Option.isNone_some]
  rw [cond_pos (by simp), cond_pos (by simp), cond_pos (by simp)]
  refine ⟨k, (ha4.ex h5).c1, ?_⟩
  have hp := prod_le (s := s) (k := k) (by omega)
  have e1 : (s + 1 - 4) * k = (s - 4) * k + k := by rw [show s + 1 - 4 = (s - 4) + 1 by omega, Int.add_mul, Int.one_mul]
  have e2 : (s - 4) * (k + 1) = (s - 4) * k + (s - 4) := by rw [Int.mul_add, Int.mul_one]
  have e3 : (s - 4) * k = s * k - 4 * k := Int.sub_mul _ _ _
  have e4 : 2 * k ≤ (s - 4) * k := Int.mul_le_mul_of_nonneg_right (by omega) (by omega)
  simp only [if_true]
  rw [w64 (by omega) (by omega), cond_pos (by simp; omega), condd_pos (by omega), decide_eq_true (by omega)]
  exact Ret.mk ⟨rfl, (((hx.trans h2).trans h3).trans h4).trans h5⟩
end Go.Proofs.Ytmkbcpbondjfjaa.G
