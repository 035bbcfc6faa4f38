/-
  The law PlatSteps: the walk.
-/
import Derived.Test.YtmkbcpbondjfjaaPlatB
namespace Go.Proofs.Ytmkbcpbondjfjaa.G
open Go.Dec Go.RowKit
set_option linter.unusedVariables false
set_option linter.unusedSimpArgs false

theorem tmod_nat {x y : Int} (hx : 0 ≤ x) (hy : 0 < y) : ∃ n : Nat, Int.tmod x y = (n : Int) ∧ (n : Int) < y := by
  have h1 := Int.emod_nonneg x (show y ≠ 0 by omega)
  have h2 := Int.emod_lt_of_pos x hy
  refine ⟨(x % y).toNat, ?_, ?_⟩
  · rw [Int.tmod_eq_emod_of_nonneg hx]; omega
  · omega

theorem PlatSteps_row (a b c d : Int) (w : World) (ha : 0 ≤ a ∧ a < 256) (hb : 0 ≤ b ∧ b < 256) (hc : 0 ≤ c ∧ c < 256) (hd : 0 ≤ d ∧ d < 256) :
    stopcocklaw06_PlatSteps.C a b c d w (Ret fun v w' => v = .bool true ∧ Ex w w') := by
  apply stopcocklaw06_PlatSteps.ok
  unfold stopcocklaw06_PlatSteps.main
  rintro b1 w1 rfl rfl
  obtain ⟨s0, es, hs0⟩ := tmod_nat (x := a) (y := 19) ha.1 (by omega)
  obtain ⟨k0, ek, hk0⟩ := tmod_nat (x := b) (y := 15) hb.1 (by omega)
  rw [es, ek, w64 (x := (s0 : Int)) (by omega) (by omega), w64 (x := (k0 : Int)) (by omega) (by omega), w64 (x := 6 + (s0 : Int)) (by omega) (by omega), w64 (x := 2 + (k0 : Int)) (by omega) (by omega),
    w64 (x := c) (by omega) (by omega), w64 (x := d) (by omega) (by omega)]
  have h0 := Own.made (w := w) (e := 23) (sz := 2) (n := 1) (c := 1) (cur := #[.int .i64 0, .int .i64 0]) (fr := (0, 0)) (Nat.le_refl _) (by simp) (Loose.zero _)
  obtain ⟨h1, h2, h3⟩ := h0.writes 0 [.int .i64 (6 + (s0 : Int)), .int .i64 (2 + (k0 : Int))] (by simp) (by simp [Value.oneCell'])
  refine ⟨h1, ?_⟩
  rintro w2 rfl
  have hx : Ex w ((w.alloc (.cells #[.int .i64 0, .int .i64 0] 23)).setCells w.heap.size 0 [.int .i64 (6 + (s0 : Int)), .int .i64 (2 + (k0 : Int))]) :=
    Kp.trans (Ex.alloc w _) (Kp.setCells w.heap.size (S := fun i => i = w.heap.size) rfl _ _ _) (fun _ _ h => h) (fun i hi h => by omega)
  have hat : At ((w.alloc (.cells #[.int .i64 0, .int .i64 0] 23)).setCells w.heap.size 0 [.int .i64 (6 + (s0 : Int)), .int .i64 (2 + (k0 : Int))]) w.heap.size (6 + (s0 : Int)) (2 + (k0 : Int)) := by
    have := h2.cells
    simpa [At, two, setO] using this
  dsimp only
  generalize (w.alloc (.cells #[.int .i64 0, .int .i64 0] 23)).setCells w.heap.size 0 [.int .i64 (6 + (s0 : Int)), .int .i64 (2 + (k0 : Int))] = w2 at hx hat
  refine ⟨_, hat.c0, chkd_of (by omega) ⟨_, hat.c1, chkd_of (by omega) ?_⟩⟩
  obtain ⟨x, ex, hxl⟩ := tmod_nat (x := c) (y := 6 + (s0 : Int)) hc.1 (by omega)
  obtain ⟨y, ey, hyl⟩ := tmod_nat (x := d) (y := 2 + (k0 : Int)) hd.1 (by omega)
  rw [ex, ey, w64 (x := (x : Int) + 1) (by omega) (by omega)]
  have e0 : (0 : Nat) = nr 0 := by decide +kernel
  have e1 : FloatKind.f64.nearest ((x : Int) + 1) = nr (x + 1) := rfl
  rw [e1, show FloatKind.f64.nearest (x : Int) = nr x from rfl, show FloatKind.f64.nearest (y : Int) = nr y from rfl]
  intro k1
  have hat3 := hat.ex (Ex.drewN w2 k1)
  have hx3 := hx.trans (Ex.drewN w2 k1)
  generalize w2.drewN k1 = w3 at hat3 hx3
  have hm : 6 ≤ 6 + (s0 : Int) ∧ 6 + (s0 : Int) ≤ 24 ∧ 2 ≤ 2 + (k0 : Int) ∧ 2 + (k0 : Int) ≤ 16 := by omega
  have hp := prod_le hm
  have hxk : ((x : Int) + 1) * (2 + (k0 : Int)) ≤ (6 + (s0 : Int)) * (2 + (k0 : Int)) := Int.mul_le_mul_of_nonneg_right (by omega) (by omega)
  have hxk0 : 0 ≤ (x : Int) * (2 + (k0 : Int)) := Int.mul_nonneg (by omega) (by omega)
  have hxk1 : ((x : Int) + 1) * (2 + (k0 : Int)) = (x : Int) * (2 + (k0 : Int)) + (2 + (k0 : Int)) := by rw [Int.add_mul, Int.one_mul]
  refine ⟨_, rfl, hat3.both, ?_⟩
  refine callP.use (At_spec _ _ hm x y hxl hyl w3) ?_
  rintro _ w4 ⟨rfl, h4⟩
  try dsimp only [dI_i64, dI_u8, dI_u16, dI_u32, dB_bool, dS_slice, dP_ptr, dT_tup, dA_agg, dStr_str, dF_f, dC_c, dM_m, optP_some, ga0, ga1, ga2, ga3, ga4, cond_true, cond_false, chk_true, Bool.not_true, Bool.not_false, Option.isNone_none, Option.isNone_some]
  have hat4 := hat3.ex h4
  refine ⟨_, rfl, hat4.both, ?_⟩
  have A5 := At_spec _ _ hm x 0 hxl (by omega) w4
  rw [← e0] at A5
  refine callP.use A5 ?_
  rintro _ w5 ⟨rfl, h5⟩
  try dsimp only [dI_i64, dI_u8, dI_u16, dI_u32, dB_bool, dS_slice, dP_ptr, dT_tup, dA_agg, dStr_str, dF_f, dC_c, dM_m, optP_some, ga0, ga1, ga2, ga3, ga4, cond_true, cond_false, chk_true, Bool.not_true, Bool.not_false, Option.isNone_none, Option.isNone_some]
  refine callP.use (awake_spec w5) ?_
  rintro _ w6 ⟨rfl, h6⟩
  try dsimp only [dI_i64, dI_u8, dI_u16, dI_u32, dB_bool, dS_slice, dP_ptr, dT_tup, dA_agg, dStr_str, dF_f, dC_c, dM_m, optP_some, ga0, ga1, ga2, ga3, ga4, cond_true, cond_false, chk_true, Bool.not_true, Bool.not_false, Option.isNone_none, Option.isNone_some]
  have hat6 := (hat4.ex h5).ex h6
  have hx6 := ((hx3.trans h4).trans h5).trans h6
  rw [w64 (x := 40 + ((x : Int) * (2 + (k0 : Int)) + ((0 : Nat) : Int)) + (y : Int)) (by omega) (by omega), cond_neg (by decide), cond_neg (by decide), cond_neg (by decide), cond_neg (by simp; omega)]
  refine ⟨_, hat6.c0, cond_of (fun h => ?_) (fun h => ?_)⟩
  · have hlast : (x : Int) + 1 = 6 + (s0 : Int) := by simpa using h
    refine ⟨_, rfl, hat6.both, ?_⟩
    refine callP.use (Sectors_spec _ _ w6) ?_
    rintro _ w7 ⟨rfl, h7⟩
    rw [may_iff.2 hm]
    try dsimp only [dI_i64, dI_u8, dI_u16, dI_u32, dB_bool, dS_slice, dP_ptr, dT_tup, dA_agg, dStr_str, dF_f, dC_c, dM_m, optP_some, ga0, ga1, ga2, ga3, ga4, cond_true, cond_false, chk_true, Bool.not_true, Bool.not_false, Option.isNone_none, Option.isNone_some]
    simp only [if_true]
    rw [cond_pos (by decide)]
    refine ⟨_, (hat6.ex h7).c1, Ret.mk ⟨?_, hx6.trans h7⟩⟩
    rw [w64 (by omega) (by omega)]
    rw [hlast] at hxk1
    refine congrArg Value.bool ?_
    simp
    omega
  · have hne : ¬ (x : Int) + 1 = 6 + (s0 : Int) := by simpa using h
    refine ⟨_, rfl, hat6.both, ?_⟩
    have A7 := At_spec _ _ hm (x + 1) 0 (by omega) (by omega) w6
    rw [← e0] at A7
    refine callP.use A7 ?_
    rintro _ w7 ⟨rfl, h7⟩
    try dsimp only [dI_i64, dI_u8, dI_u16, dI_u32, dB_bool, dS_slice, dP_ptr, dT_tup, dA_agg, dStr_str, dF_f, dC_c, dM_m, optP_some, ga0, ga1, ga2, ga3, ga4, cond_true, cond_false, chk_true, Bool.not_true, Bool.not_false, Option.isNone_none, Option.isNone_some]
    rw [cond_pos (by decide)]
    refine ⟨_, (hat6.ex h7).c1, Ret.mk ⟨?_, hx6.trans h7⟩⟩
    rw [w64 (by omega) (by omega)]
    refine congrArg Value.bool ?_
    simp
    omega
end Go.Proofs.Ytmkbcpbondjfjaa.G
