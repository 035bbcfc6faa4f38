/-
  The law CellOrder: of one size a greater number has greater bytes: lemmas and the walk.
-/
import Derived.Test.YtlcnjadfkpkgjaaCellC
import Derived.Test.YtlcnjadfkpkgjaaDecR
namespace Go.Proofs.Ytlcnjadfkpkgjaa.G
open Go.Dec Go.RowKit
set_option linter.unusedVariables false
set_option linter.unusedSimpArgs false

theorem be_less : ∀ (k : Nat) (a b : Int), 0 ≤ a → 0 ≤ b → Op.bytesLess ((be k a).map letter) ((be k b).map letter) = decide (a % 256 ^ k < b % 256 ^ k)
  | 0, a, b, _, _ => by simp [be, Op.bytesLess, Int.emod_one]
  | k + 1, a, b, ha, hb => by
    have hp : (0 : Int) < 256 ^ k := Int.pow_pos (by omega)
    have ea := mod_mod a hp
    have eb := mod_mod b hp
    have a0 : 0 ≤ a / 256 ^ k % 256 := Int.emod_nonneg _ (by omega)
    have a1 : a / 256 ^ k % 256 < 256 := Int.emod_lt_of_pos _ (by omega)
    have b0 : 0 ≤ b / 256 ^ k % 256 := Int.emod_nonneg _ (by omega)
    have b1 : b / 256 ^ k % 256 < 256 := Int.emod_lt_of_pos _ (by omega)
    have ma0 : 0 ≤ a % 256 ^ k := Int.emod_nonneg _ (by omega)
    have ma1 : a % 256 ^ k < 256 ^ k := Int.emod_lt_of_pos _ hp
    have mb0 : 0 ≤ b % 256 ^ k := Int.emod_nonneg _ (by omega)
    have mb1 : b % 256 ^ k < 256 ^ k := Int.emod_lt_of_pos _ hp
    simp only [be, List.map_cons, Op.bytesLess, be_less k a b ha hb]
    rw [Int.pow_succ, ← ea, ← eb]
    generalize a / 256 ^ k % 256 = x at *
    generalize b / 256 ^ k % 256 = y at *
    generalize (256 : Int) ^ k = m at *
    generalize a % m = u at *
    generalize b % m = v at *
    rw [Bool.eq_iff_iff]
    simp only [Bool.or_eq_true, Bool.and_eq_true, decide_eq_true_eq, beq_iff_eq, letter_lt a0 a1 b0 b1, letter_inj a0 a1 b0 b1]
    rcases Int.lt_trichotomy x y with h | h | h
    · have : x * m + m ≤ y * m := by
        have := Int.mul_le_mul_of_nonneg_right (a := x + 1) (b := y) (c := m) (by omega) (by omega)
        rwa [Int.add_mul, Int.one_mul] at this
      constructor
      · intro _; omega
      · intro _; exact .inl h
    · subst h
      constructor
      · rintro (h | h) <;> omega
      · intro h; exact .inr ⟨rfl, by omega⟩
    · have : y * m + m ≤ x * m := by
        have := Int.mul_le_mul_of_nonneg_right (a := y + 1) (b := x) (c := m) (by omega) (by omega)
        rwa [Int.add_mul, Int.one_mul] at this
      constructor
      · rintro (h | h) <;> omega
      · intro _; omega

theorem putB_nil {k : Nat} {x : Int} (h1 : 1 ≤ k) (h4 : k ≤ 4) (h : putE k x = 0) : okNum k x = true ∧ putB [] k x = be k x := by
  rw [putE_nat h1 h4] at h
  rw [putB_nat h1 h4]
  cases hk : okNum k x <;> simp_all

theorem CellOrder_row (s a b : Int) (w : World) (hs : 0 ≤ s ∧ s < 256) (_ha : -9223372036854775808 ≤ a ∧ a ≤ 9223372036854775807) (_hb : -9223372036854775808 ≤ b ∧ b ≤ 9223372036854775807) :
    stopcocklaw04_CellOrder.C s a b w (Ret fun v w' => v = .bool true ∧ Ex w w') := by
  apply stopcocklaw04_CellOrder.ok
  unfold stopcocklaw04_CellOrder.main
  obtain ⟨k, hk, hk1, hk4, -⟩ := wrapK hs.1 hs.2
  rw [hk]
  refine callP.use (Put_spec none 0 0 [] k a w rfl rfl (by omega)) ?_
  rintro _ w1 ⟨p1, n1, c1, rfl, hn1, ho1, h1⟩
  try dsimp only [dI_i64, dI_u8, dI_u16, dI_u32, dB_bool, dS_slice, dP_ptr, dT_tup, dA_agg, dStr_str, dF_f, dC_c, dM_m, optP_some, ga0, ga1, ga2, ga3, ga4, cond_true, cond_false, chk_true, Bool.not_true, Bool.not_false, Option.isNone_none, Option.isNone_some]
  refine callP.use (Put_spec none 0 0 [] k b w1 rfl rfl (by omega)) ?_
  rintro _ w2 ⟨p2, n2, c2, rfl, hn2, ho2, h2⟩
  try dsimp only [dI_i64, dI_u8, dI_u16, dI_u32, dB_bool, dS_slice, dP_ptr, dT_tup, dA_agg, dStr_str, dF_f, dC_c, dM_m, optP_some, ga0, ga1, ga2, ga3, ga4, cond_true, cond_false, chk_true, Bool.not_true, Bool.not_false, Option.isNone_none, Option.isNone_some]
  refine callP.use (awake_spec w2) ?_
  rintro _ w3 ⟨rfl, h3⟩
  have h : Ex w w3 := (h1.trans h2).trans h3
  have last : callP Try.prog 12 #[] w3 (fun v w' => dB v fun x => Ret (fun v w' => v = .bool true ∧ Ex w w') (.returned (Value.bool x)) w') (fun ch w' => Ret (fun v w' => v = .bool true ∧ Ex w w') (.panicked ch) w') := by
    refine callP.use (awake_spec w3) ?_
    rintro _ w4 ⟨rfl, h4⟩
    try dsimp only [dI_i64, dI_u8, dI_u16, dI_u32, dB_bool, dS_slice, dP_ptr, dT_tup, dA_agg, dStr_str, dF_f, dC_c, dM_m, optP_some, ga0, ga1, ga2, ga3, ga4, cond_true, cond_false, chk_true, Bool.not_true, Bool.not_false, Option.isNone_none, Option.isNone_some]
    exact Ret.mk ⟨rfl, h.trans h4⟩
  try dsimp only [dI_i64, dI_u8, dI_u16, dI_u32, dB_bool, dS_slice, dP_ptr, dT_tup, dA_agg, dStr_str, dF_f, dC_c, dM_m, optP_some, ga0, ga1, ga2, ga3, ga4, cond_true, cond_false, chk_true, Bool.not_true, Bool.not_false, Option.isNone_none, Option.isNone_some]
  simp only [Bool.not_true, Bool.not_false, cond_true, cond_false]
  by_cases e1 : putE k a = 0
  · rw [cond_neg (by simp [e1])]
    by_cases e2 : putE k b = 0
    · rw [cond_neg (by simp [e2])]
      obtain ⟨oa, ea⟩ := putB_nil hk1 hk4 e1
      obtain ⟨ob, eb⟩ := putB_nil hk1 hk4 e2
      rw [ea] at ho1
      rw [eb] at ho2
      have l1 : (be k a).length = n1 := by have := ho1.1; simpa [v8] using this
      have l2 : (be k b).length = n2 := by have := ho2.1; simpa [v8] using this
      have hc1 := (ho1.cells.ex h2).ex h3
      have hc2 := ho2.cells.ex h3
      have ma : a % 256 ^ k = a := by have := num_be k a (by simp [okNum] at oa; omega); rw [num_be_ok oa] at this; exact this.symm
      have mb : b % 256 ^ k = b := by have := num_be k b (by simp [okNum] at ob; omega); rw [num_be_ok ob] at this; exact this.symm
      refine ⟨be k a, l1, hc1, be k b, l2, hc2, ?_⟩
      rw [strOf_data, strOf_data, be_less k a b (by simp [okNum] at oa; omega) (by simp [okNum] at ob; omega), ma, mb, cond_pos (by simp)]
      refine ⟨be k a, l1, hc1, be k b, l2, hc2, Ret.mk ⟨?_, h⟩⟩
      rw [strOf_eq (be_byte k a) (be_byte k b)]
      have : be k a = be k b ↔ a = b := ⟨fun e => by rw [← num_be_ok oa, ← num_be_ok ob, e], fun e => by rw [e]⟩
      by_cases hab : a = b
      · simp [hab]
      · simp [hab, mt this.1 hab]
    · rw [cond_pos (by simp [e2])]
      exact last
  · rw [cond_pos (by simp [e1])]
    exact last
end Go.Proofs.Ytlcnjadfkpkgjaa.G
