/-
  The law CellWide: a number in more bytes is it in fewer, with 0 ahead: the walk.
-/
import Derived.Test.YtlcnjadfkpkgjaaCellE
namespace Go.Proofs.Ytlcnjadfkpkgjaa.G
open Go.Dec Go.RowKit
set_option linter.unusedVariables false
set_option linter.unusedSimpArgs false

theorem okNum_wide {k : Nat} {x : Int} (h : okNum k x = true) (j : Nat) : okNum (k + j) x = true := by
  simp only [okNum, Bool.and_eq_true, decide_eq_true_eq] at h ⊢
  have : (256 : Int) ^ k ≤ 256 ^ (k + j) := pow256_mono (by omega)
  exact ⟨h.1, by omega⟩
theorem be_wide {k : Nat} {x : Int} (h : okNum k x = true) : ∀ j : Nat, be (j + k) x = List.replicate j 0 ++ be k x
  | 0 => by simp
  | j + 1 => by
    have e : be (j + 1 + k) x = x / 256 ^ (j + k) % 256 :: be (j + k) x := by rw [show j + 1 + k = (j + k) + 1 by omega]; rfl
    rw [e, be_wide h j, List.replicate_succ, List.cons_append]
    simp only [okNum, Bool.and_eq_true, decide_eq_true_eq] at h
    have : (256 : Int) ^ k ≤ 256 ^ (j + k) := pow256_mono (by omega)
    rw [Int.ediv_eq_zero_of_lt h.1 (by omega)]
    rfl

theorem CellWide_row (s t x : Int) (w : World) (hs : 0 ≤ s ∧ s < 256) (ht : 0 ≤ t ∧ t < 256) (_hx : -9223372036854775808 ≤ x ∧ x ≤ 9223372036854775807) :
    stopcocklaw04_CellWide.C s t x w (Ret fun v w' => v = .bool true ∧ Ex w w') := by
  apply stopcocklaw04_CellWide.ok
  unfold stopcocklaw04_CellWide.main
  obtain ⟨k, hk, hk1, hk4, -⟩ := wrapK hs.1 hs.2
  rw [hk]
  have e5 : IntKind.i64.wrap (5 - (k : Int)) = 5 - k := w64 (by omega) (by omega)
  have e6 : IntKind.i64.wrap t = t := w64 (by omega) (by omega)
  obtain ⟨j, hj, hj4⟩ : ∃ j : Nat, IntKind.i64.wrap ((k : Int) + Int.tmod t (5 - k)) = ((j + k : Nat) : Int) ∧ j + k ≤ 4 := by
    rw [Int.tmod_eq_emod_of_nonneg ht.1]
    have h0 := Int.emod_nonneg t (b := 5 - (k : Int)) (by omega)
    have h1 := Int.emod_lt_of_pos t (b := 5 - (k : Int)) (by omega)
    rw [w64 (by omega) (by omega)]
    exact ⟨(t % (5 - (k : Int))).toNat, by omega, by omega⟩
  have ej : IntKind.i64.wrap (((j + k : Nat) : Int) - k) = j := by rw [w64 (by omega) (by omega)]; omega
  rw [e5, e6, hj, ej]
  refine chkd_of (by omega) ?_
  refine callP.use (Put_spec none 0 0 [] k x w rfl rfl (by omega)) ?_
  rintro _ w1 ⟨p1, n1, c1, rfl, hn1, ho1, h1⟩
  try dsimp only [dI_i64, dI_u8, dI_u16, dI_u32, dB_bool, dS_slice, dP_ptr, dT_tup, dA_agg, dStr_str, dF_f, dC_c, dM_m, optP_some, ga0, ga1, ga2, ga3, ga4, cond_true, cond_false, chk_true, Bool.not_true, Bool.not_false, Option.isNone_none, Option.isNone_some]
  rintro b1 w2 rfl rfl
  refine callP.use (Put_spec (some ⟨w1.heap.size, 0, none⟩) 0 0 [] (j + k : Nat) x (w1.alloc _) (fun i v h => by simp [v8] at h) rfl (by omega)) ?_
  rintro _ w3 ⟨p2, n2, c2, rfl, hn2, ho2, h2⟩
  try dsimp only [dI_i64, dI_u8, dI_u16, dI_u32, dB_bool, dS_slice, dP_ptr, dT_tup, dA_agg, dStr_str, dF_f, dC_c, dM_m, optP_some, ga0, ga1, ga2, ga3, ga4, cond_true, cond_false, chk_true, Bool.not_true, Bool.not_false, Option.isNone_none, Option.isNone_some]
  refine callP.use (awake_spec w3) ?_
  rintro _ w4 ⟨rfl, h3⟩
  have h : Ex w w4 := ((h1.trans (Ex.alloc _ _)).trans h2).trans h3
  try dsimp only [dI_i64, dI_u8, dI_u16, dI_u32, dB_bool, dS_slice, dP_ptr, dT_tup, dA_agg, dStr_str, dF_f, dC_c, dM_m, optP_some, ga0, ga1, ga2, ga3, ga4, cond_true, cond_false, chk_true, Bool.not_true, Bool.not_false, Option.isNone_none, Option.isNone_some]
  simp only [Bool.not_true, Bool.not_false, cond_true, cond_false]
  by_cases e1 : putE k x = 0
  · rw [cond_neg (by simp [e1])]
    obtain ⟨oa, ea⟩ := putB_nil hk1 hk4 e1
    have ob : okNum (j + k) x = true := by rw [Nat.add_comm]; exact okNum_wide oa j
    have e2 : putE (j + k : Nat) x = 0 := by rw [putE_nat (by omega) hj4, ob]; rfl
    rw [ea] at ho1
    rw [(putB_nil (by omega) hj4 e2).2, be_wide oa j] at ho2
    have l1 : (be k x).length = n1 := by have := ho1.1; simpa [v8] using this
    have l2 : (List.replicate j 0 ++ be k x).length = n2 := by have := ho2.1; simpa [v8] using this
    have hc1 : CellsO w4 p1 (v8 (be k x)) := ((ho1.cells.ex (Ex.alloc _ _)).ex h2).ex h3
    refine ⟨be k x, l1, hc1.ex (Ex.drew _), ?_⟩
    refine chkd_of (by omega) (chkd_of (by omega) (chkd_of (by omega) ?_))
    rintro b5 w5 rfl rfl
    refine ⟨be k x, l1, (hc1.ex (Ex.drew _)).ex (Ex.alloc _ _), rfl, List.replicate j 0, by simp, ?_, ?_⟩
    · rw [madeCells_int, Int.toNat_natCast, Nat.mul_one]
      exact CellsO.alloc _ _
    · refine chkd_of ?_ ?_
      · rw [strOf_size, strOf_size, be_length, List.length_replicate, i64_max]; omega
      · rw [cond_pos (by rw [e2]; rfl)]
        refine ⟨List.replicate j 0 ++ be k x, l2, ((ho2.cells.ex h3).ex (Ex.drew _)).ex (Ex.alloc _ _), Ret.mk ⟨?_, (h.trans (Ex.drew _)).trans (Ex.alloc _ _)⟩⟩
        rw [toList_append, strOf_data, strOf_data, strOf_data, List.map_append]
        simp
  · rw [cond_pos (by simp [e1])]
    refine callP.use (awake_spec w4) ?_
    rintro _ w5 ⟨rfl, h4⟩
    try dsimp only [dI_i64, dI_u8, dI_u16, dI_u32, dB_bool, dS_slice, dP_ptr, dT_tup, dA_agg, dStr_str, dF_f, dC_c, dM_m, optP_some, ga0, ga1, ga2, ga3, ga4, cond_true, cond_false, chk_true, Bool.not_true, Bool.not_false, Option.isNone_none, Option.isNone_some]
    exact Ret.mk ⟨rfl, h.trans h4⟩
end Go.Proofs.Ytlcnjadfkpkgjaa.G
