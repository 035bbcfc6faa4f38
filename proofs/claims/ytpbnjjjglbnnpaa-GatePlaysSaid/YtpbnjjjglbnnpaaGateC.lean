/-
  The laws GateFull and GateOrder: the walks.
-/
import Derived.Test.YtpbnjjjglbnnpaaGateB
namespace Go.Proofs.Ytpbnjjjglbnnpaa.G
open Go.Dec Go.RowKit
set_option linter.unusedVariables false
set_option linter.unusedSimpArgs false

abbrev In64 (a : Int) : Prop := -9223372036854775808 ≤ a ∧ a ≤ 9223372036854775807
/-- tickets are counted on -/
def Tick (xs : List (Rq × Int)) (t : Int) : Prop := ∀ (j : Nat) x, xs[j]? = some x → x.2 = t + (j : Int)
theorem Tick.push {xs : List (Rq × Int)} {t : Int} (h : Tick xs t) {y : Rq × Int} (hy : y.2 = t + (xs.length : Int)) : Tick (xs ++ [y]) t := by
  intro j x hx
  by_cases hj : j < xs.length
  · rw [List.getElem?_append_left hj] at hx
    exact h j x hx
  · rw [List.getElem?_append_right (by omega)] at hx
    have : j - xs.length = 0 := by
      have := (List.getElem?_eq_some_iff.1 hx).1
      simp at this; omega
    rw [this] at hx
    simp only [List.getElem?_cons_zero, Option.some.injEq] at hx
    subst hx
    rw [hy]; omega
theorem Tick.pop {y : Rq × Int} {xs : List (Rq × Int)} {t : Int} (h : Tick (y :: xs) t) : Tick xs (t + 1) := by
  intro j x hx
  have := h (j + 1) x (by simpa using hx)
  omega
theorem Tick.head {y : Rq × Int} {xs : List (Rq × Int)} {t : Int} (h : Tick (y :: xs) t) : y.2 = t := by
  have := h 0 y rfl
  omega

theorem GateFull_row (a0 a1 a2 a3 : Int) (p : Option Addr) (n c : Nat) (xs : List Int) (tm : Int) (w : World) (_ : In64 a0) (_ : In64 a1) (_ : In64 a2) (_ : In64 a3) (hi : Ints .u8 w p n c xs) (hm : c * 1 ≤ 140737488351232) (htm : 0 ≤ tm ∧ tm < 256) :
    stopcocklaw19_GateFull.C a0 a1 a2 a3 p n c tm w (Ret fun v w' => v = .bool true ∧ Ex w w') := by
  apply stopcocklaw19_GateFull.ok
  unfold stopcocklaw19_GateFull.main
  have hr : RqOk w ⟨a0, a1, a2, a3, xs, p, n, c⟩ := ⟨hi.cells, hi.size, by have := hi.room; show _ ≤ _; dsimp only; omega, fun x hx => wf_u8' (hi.wf x hx)⟩
  rintro b1 w1 rfl rfl
  have o1 := Own.new (w := w) [.int .i64 a0, .int .i64 a1, .int .i64 a2, .int .i64 a3, .slice p n c] 29
  have x1 := Ex.alloc w (.cells #[.int .i64 a0, .int .i64 a1, .int .i64 a2, .int .i64 a3, .slice p n c] 29)
  generalize w.alloc (.cells #[.int .i64 a0, .int .i64 a1, .int .i64 a2, .int .i64 a3, .slice p n c] 29) = w1 at o1 x1 ⊢
  refine callP.use (New_spec w1) ?_
  rintro _ w2 ⟨rfl, x2, G2⟩
  have hB : w.heap.size ≤ w1.heap.size := x1.size
  generalize w1.heap.size = B at hB G2
  generalize hpg : (⟨B, 0, none⟩ : Addr) = ag
  try dsimp only [dI_i64, dI_u8, dI_u16, dI_u32, dB_bool, dS_slice, dP_ptr, dT_tup, dA_agg, dStr_str, dF_f, dC_c, dM_m, optP_some, ga0, ga1, ga2, ga3, ga4, cond_true, cond_false, chk_true, Bool.not_true, Bool.not_false, Option.isNone_none, Option.isNone_some, List.toList_toArray]
  subst hpg
  refine callP.use (awake_spec w2) ?_
  rintro _ w4 ⟨rfl, x4⟩
  try dsimp only [dI_i64, dI_u8, dI_u16, dI_u32, dB_bool, dS_slice, dP_ptr, dT_tup, dA_agg, dStr_str, dF_f, dC_c, dM_m, optP_some, ga0, ga1, ga2, ga3, ga4, cond_true, cond_false, chk_true, Bool.not_true, Bool.not_false, Option.isNone_none, Option.isNone_some, List.toList_toArray]
  have o4 := (o1.ex x2).ex x4
  have X4 := (x1.trans x2).trans x4
  have G4 := G2.ex x4
  refine ⟨_, rfl, o4.cells, ?_⟩
  refine callP.use (Check_spec ⟨a0, a1, a2, a3, xs, p, n, c⟩ w4) ?_
  rintro _ w6 ⟨hv, x6⟩
  rcases hv.symm with ⟨hg, rfl⟩ | ⟨hg, rfl⟩
  · try dsimp only [dI_i64, dI_u8, dI_u16, dI_u32, dB_bool, dS_slice, dP_ptr, dT_tup, dA_agg, dStr_str, dF_f, dC_c, dM_m, optP_some, ga0, ga1, ga2, ga3, ga4, cond_true, cond_false, chk_true, Bool.not_true, Bool.not_false, Option.isNone_none, Option.isNone_some, List.toList_toArray]
    unfold stopcocklaw19_GateFull.k1
    rw [cond_pos (by decide)]
    refine callP.use (awake_spec w6) ?_
    rintro _ w8 ⟨rfl, x8⟩
    try dsimp only [dI_i64, dI_u8, dI_u16, dI_u32, dB_bool, dS_slice, dP_ptr, dT_tup, dA_agg, dStr_str, dF_f, dC_c, dM_m, optP_some, ga0, ga1, ga2, ga3, ga4, cond_true, cond_false, chk_true, Bool.not_true, Bool.not_false, Option.isNone_none, Option.isNone_some, List.toList_toArray]
    exact Ret.mk ⟨rfl, (X4.trans x6).trans x8⟩
  try dsimp only [dI_i64, dI_u8, dI_u16, dI_u32, dB_bool, dS_slice, dP_ptr, dT_tup, dA_agg, dStr_str, dF_f, dC_c, dM_m, optP_some, ga0, ga1, ga2, ga3, ga4, cond_true, cond_false, chk_true, Bool.not_true, Bool.not_false, Option.isNone_none, Option.isNone_some, List.toList_toArray]
  unfold stopcocklaw19_GateFull.k1
  rw [cond_neg (by decide)]
  have hB6 : B ≤ w6.heap.size := by
    obtain ⟨q, c, h1, _⟩ := G4.ex x6
    have := (h1.typed rfl).2
    omega
  refine ⟨fun t1 t2 t5 t6 w' => tm = t1 ∧ t2 = w.heap.size ∧ t5 = some ⟨B, 0, none⟩ ∧ 1 ≤ t6 ∧ t6 ≤ 17 ∧ Ex w w' ∧ B ≤ w'.heap.size ∧ Own w' w.heap.size 29 5 (some ⟨w.heap.size, 0, none⟩) 1 1 [.int .i64 a0, .int .i64 a1, .int .i64 a2, .int .i64 a3, .slice p n c] ∧
    ∃ ys, GateIs w' B B ys (t6 - 1) ∧ (ys.length : Int) = t6 - 1 ∧ Tick ys 1, fun t1 t2 t5 t6 w' => (17 - t6).toNat, ?_, ?_⟩
  · exact ⟨rfl, rfl, rfl, by omega, by omega, X4.trans x6, hB6, o4.ex x6, [], by simpa using G4.ex x6, by simp, fun j x hx => by simp at hx⟩
  rintro _ _ _ t6 w' ⟨rfl, rfl, rfl, ht1, ht2, Xw, hBw, ow, ys, Gw, hlen, htick⟩
  unfold stopcocklaw19_GateFull.b1
  refine cond_of (fun hc => ?_) (fun hc => ?_)
  · have hc := of_decide_eq_true hc
    refine ⟨_, rfl, ow.cells, ?_⟩
    refine callP.use (Submit_spec Gw hBw Xw hB ⟨a0, a1, a2, a3, xs, p, n, c⟩ hr (by omega)) ?_
    rintro _ w10 hcase
    rcases hcase with ⟨hb, _⟩ | ⟨_, hb, _⟩ | ⟨_, _, rfl, k10, r', hl, G10⟩
    · exact absurd hg hb
    · omega
    try dsimp only [dI_i64, dI_u8, dI_u16, dI_u32, dB_bool, dS_slice, dP_ptr, dT_tup, dA_agg, dStr_str, dF_f, dC_c, dM_m, optP_some, ga0, ga1, ga2, ga3, ga4, cond_true, cond_false, chk_true, Bool.not_true, Bool.not_false, Option.isNone_none, Option.isNone_some, List.toList_toArray]
    rw [cond_neg (by decide), cond_neg (by simp), w64 (by omega) (by omega)]
    refine ⟨⟨rfl, rfl, rfl, by omega, by omega, Xw.then k10 fun i hi => Nat.le_trans hB hi.1, Nat.le_trans hBw k10.size, Own.mod ow k10 (by decide) (by decide), ys ++ [(r', t6 - 1 + 1)], by simpa [show t6 + 1 - 1 = t6 - 1 + 1 by omega] using G10, ?_, ?_⟩, by omega⟩
    · rw [List.length_append]; simp; omega
    · exact htick.push (by dsimp only; omega)
  · have hc := of_decide_eq_false hc
    have h17 : t6 = 17 := by omega
    subst h17
    unfold stopcocklaw19_GateFull.k2
    refine ⟨fun t1 t2 t5 t9 w' => tm = t1 ∧ t2 = w.heap.size ∧ t5 = some ⟨B, 0, none⟩ ∧ 0 ≤ t9 ∧ t9 ≤ 40 ∧ Ex w w' ∧ B ≤ w'.heap.size ∧ Own w' w.heap.size 29 5 (some ⟨w.heap.size, 0, none⟩) 1 1 [.int .i64 a0, .int .i64 a1, .int .i64 a2, .int .i64 a3, .slice p n c] ∧
      ∃ ys, GateIs w' B B ys (16 + t9) ∧ ys.length = 16 ∧ Tick ys (t9 + 1), fun t1 t2 t5 t9 w' => (40 - t9).toNat, ?_, ?_⟩
    · exact ⟨rfl, rfl, rfl, by omega, by omega, Xw, hBw, ow, ys, by simpa using Gw, by omega, by simpa using htick⟩
    clear ht1 ht2 Xw hBw ow Gw hlen htick hc
    clear ys
    rintro _ _ _ t9 w' ⟨rfl, rfl, rfl, ht1, ht2, Xw, hBw, ow, ys, Gw, hlen, htick⟩
    unfold stopcocklaw19_GateFull.b2
    refine cond_of (fun hc => ?_) (fun hc => Ret.mk ⟨rfl, Xw⟩)
    have hc := of_decide_eq_true hc
    have hmod : Int.tmod tm 40 = tm % 40 := Int.tmod_eq_emod_of_nonneg htm.1
    rw [hmod, w64 (by omega) (by omega)] at hc
    refine ⟨_, rfl, ow.cells, ?_⟩
    refine callP.use (Submit_spec Gw hBw Xw hB ⟨a0, a1, a2, a3, xs, p, n, c⟩ hr (by omega)) ?_
    rintro _ w12 hcase
    rcases hcase with ⟨hb, _⟩ | ⟨_, _, rfl, x12⟩ | ⟨_, hb, _⟩
    · exact absurd hg hb
    rotate_left
    · omega
    try dsimp only [dI_i64, dI_u8, dI_u16, dI_u32, dB_bool, dS_slice, dP_ptr, dT_tup, dA_agg, dStr_str, dF_f, dC_c, dM_m, optP_some, ga0, ga1, ga2, ga3, ga4, cond_true, cond_false, chk_true, Bool.not_true, Bool.not_false, Option.isNone_none, Option.isNone_some, List.toList_toArray]
    cases ys with
    | nil => simp at hlen
    | cons y ys =>
    have G12 := Gw.ex x12
    refine callP.use (First_cons G12) ?_
    rintro _ w14 ⟨p', c', rfl, x14, o14⟩
    unfold Rq.cells
    try dsimp only [dI_i64, dI_u8, dI_u16, dI_u32, dB_bool, dS_slice, dP_ptr, dT_tup, dA_agg, dStr_str, dF_f, dC_c, dM_m, optP_some, ga0, ga1, ga2, ga3, ga4, cond_true, cond_false, chk_true, Bool.not_true, Bool.not_false, Option.isNone_none, Option.isNone_some, List.toList_toArray]
    rintro b4 w16 rfl rfl
    have o16 := Own.new (w := w14) zeros 29
    have x16 := Ex.alloc w14 (.cells zeros.toArray 29)
    unfold zeros at o16 x16
    generalize w14.alloc (.cells #[.int .i64 0, .int .i64 0, .int .i64 0, .int .i64 0, .slice none 0 0] 29) = w16 at o16 x16 ⊢
    refine chkd_of rfl ?_
    try dsimp only [dI_i64, dI_u8, dI_u16, dI_u32, dB_bool, dS_slice, dP_ptr, dT_tup, dA_agg, dStr_str, dF_f, dC_c, dM_m, optP_some, ga0, ga1, ga2, ga3, ga4, cond_true, cond_false, chk_true, Bool.not_true, Bool.not_false, Option.isNone_none, Option.isNone_some, List.toList_toArray]
    refine o16.put (by rfl) five_one fun w17 k17 o17 => ?_
    have x17 : Ex w12 w17 := x14.trans (x16.then k17 fun i hi => by rw [hi]; exact Nat.le_refl _)
    have G17 := G12.ex x17
    rw [cond_neg (by decide), cond_neg (by decide), htick.head, w64 (x := t9 + 1) (by omega) (by omega), cond_neg (by simp)]
    refine callP.use (Done_cons G17) ?_
    rintro _ w18 ⟨rfl, k18, G18⟩
    try dsimp only [dI_i64, dI_u8, dI_u16, dI_u32, dB_bool, dS_slice, dP_ptr, dT_tup, dA_agg, dStr_str, dF_f, dC_c, dM_m, optP_some, ga0, ga1, ga2, ga3, ga4, cond_true, cond_false, chk_true, Bool.not_true, Bool.not_false, Option.isNone_none, Option.isNone_some, List.toList_toArray]
    rw [cond_neg (by decide)]
    have X17 := (Xw.trans x12).trans x17
    have X18 : Ex w w18 := X17.then k18 fun i hi => Nat.le_trans hB hi.1
    have o18 := Own.mod ((ow.ex x12).ex x17) k18 (by decide) (by decide)
    have hB18 : B ≤ w18.heap.size := Nat.le_trans hBw (Nat.le_trans (x12.trans x17).size k18.size)
    refine ⟨_, rfl, o18.cells, ?_⟩
    have hl15 : ys.length = 15 := by simpa using hlen
    refine callP.use (Submit_spec G18 hB18 X18 hB ⟨a0, a1, a2, a3, xs, p, n, c⟩ hr (by omega)) ?_
    rintro _ w20 hcase
    rcases hcase with ⟨hb, _⟩ | ⟨_, hb, _⟩ | ⟨_, _, rfl, k20, r', hl, G20⟩
    · exact absurd hg hb
    · omega
    try dsimp only [dI_i64, dI_u8, dI_u16, dI_u32, dB_bool, dS_slice, dP_ptr, dT_tup, dA_agg, dStr_str, dF_f, dC_c, dM_m, optP_some, ga0, ga1, ga2, ga3, ga4, cond_true, cond_false, chk_true, Bool.not_true, Bool.not_false, Option.isNone_none, Option.isNone_some, List.toList_toArray]
    rw [cond_neg (by decide), w64 (x := 17 + t9) (by omega) (by omega), cond_neg (by simp; omega)]
    refine callP.use (Len_spec G20) ?_
    rintro _ w22 ⟨rfl, rfl⟩
    try dsimp only [dI_i64, dI_u8, dI_u16, dI_u32, dB_bool, dS_slice, dP_ptr, dT_tup, dA_agg, dStr_str, dF_f, dC_c, dM_m, optP_some, ga0, ga1, ga2, ga3, ga4, cond_true, cond_false, chk_true, Bool.not_true, Bool.not_false, Option.isNone_none, Option.isNone_some, List.toList_toArray]
    rw [cond_neg (by simp [hl15])]
    refine ⟨⟨rfl, rfl, rfl, by omega, by omega, X18.then k20 fun i hi => Nat.le_trans hB hi.1, Nat.le_trans hB18 k20.size, Own.mod o18 k20 (by decide) (by decide), ys ++ [(r', 16 + t9 + 1)], by simpa [show 16 + (t9 + 1) = 16 + t9 + 1 by omega] using G20, by simp [hl15], ?_⟩, by omega⟩
    exact htick.pop.push (by dsimp only; rw [hl15]; omega)
end Go.Proofs.Ytpbnjjjglbnnpaa.G
