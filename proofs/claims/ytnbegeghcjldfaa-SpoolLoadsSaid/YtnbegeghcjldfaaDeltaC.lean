/-
  The document's deltas: Check, Parts, Whole, Encode, Decode; deltas compared.
-/
import Derived.Test.YtnbegeghcjldfaaDeltaB
namespace Go.Proofs.Ytnbegeghcjldfaa.G
open Go.Dec Go.RowKit
set_option linter.unusedVariables false
set_option linter.unusedSimpArgs false

theorem fine_iff {k v o b x y : Int} (hx : Byte x) (hy : Byte y) : chk0 ⟨k, v, o, b, x, y⟩ = 0 ↔ (0 ≤ v ∧ v < 8) ∧ ((k = 1 ∧ (1 ≤ b ∧ b < 33) ∧ o = 0 ∧ x = 0 ∧ y = 0) ∨ (k = 2 ∧ o = 0 ∧ b = 0 ∧ x = 0 ∧ y = 0) ∨ (k = 3 ∧ (0 ≤ o ∧ o < 8) ∧ o ≠ v ∧ b = 0 ∧ x = 0 ∧ y = 0) ∨ (k = 4 ∧ (0 ≤ b ∧ b < 32) ∧ o = 0 ∧ x < 24 ∧ y < 16) ∨ (k = 5 ∧ (0 ≤ b ∧ b < 32) ∧ o = 0 ∧ x = 0 ∧ y = 0)) := by
  unfold chk0
  by_cases hk : inn k 1 6 = true
  · rw [if_pos hk]
    simp only [inn, Bool.and_eq_true, decide_eq_true_eq] at hk
    have hk' : k = 1 ∨ k = 2 ∨ k = 3 ∨ k = 4 ∨ k = 5 := by omega
    have hz : ∀ {p q : Prop} [Decidable p] [Decidable q], (if p then (if q then (0 : Int) else 2) else 5) = 0 ↔ p ∧ q := by
      intro p q _ _
      by_cases hp : p <;> by_cases hq : q <;> simp [hp, hq]
    rw [hz]
    rcases hk' with rfl | rfl | rfl | rfl | rfl <;> simp [okR, inn, whole, leftO, leftB, leftX, leftY] <;> omega
  · rw [if_neg hk]
    have hk : ¬ (1 ≤ k ∧ k < 6) := by simpa [inn] using hk
    constructor
    · intro h; cases h
    · rintro ⟨_, h⟩; omega

/-! ### Places -/
theorem fl_tab2 : ∀ (k : Fin 256) (j : Fin 24), fCmp .eql (fl (k.val : Int)) (FloatKind.f64.nearest (j.val : Int)) = decide ((k.val : Int) = (j.val : Int)) := by decide +kernel
theorem fl_eql {x j : Int} (h : Byte x) (hj : 0 ≤ j ∧ j < 24) : fCmp .eql (fl x) (FloatKind.f64.nearest j) = decide (x = j) := by
  obtain ⟨m, rfl⟩ := Int.eq_ofNat_of_zero_le h.1
  obtain ⟨n, rfl⟩ := Int.eq_ofNat_of_zero_le hj.1
  exact fl_tab2 ⟨m, by have := h.2; omega⟩ ⟨n, by omega⟩
theorem part_spec {x m : Int} (hx : Byte x) (hm : 0 ≤ m ∧ m ≤ 24) (w : World) : stopcockref01_part.C (fl x) m w (Ret fun r w' => r = .int .i64 (if x < m then x else -1) ∧ Ex w w') := by
  apply stopcockref01_part.ok
  unfold stopcockref01_part.main stopcockref01_part.l1
  refine ⟨fun t0 t1 t5 w' => t0 = fl x ∧ m = t1 ∧ 0 ≤ t5 ∧ t5 ≤ m ∧ t5 ≤ x ∧ Ex w w', fun t0 t1 t5 w' => (m - t5).toNat, ⟨rfl, rfl, by omega, by omega, hx.1, Ex.refl w⟩, ?_⟩
  rintro _ _ t5 w' ⟨rfl, rfl, h0, h1, h2, hx'⟩
  unfold stopcockref01_part.b1
  refine cond_of (fun h => ?_) (fun h => ?_)
  · have h := of_decide_eq_true h
    rw [fl_eql hx ⟨h0, by omega⟩]
    refine cond_of (fun h => ?_) (fun h => ?_)
    · obtain rfl : x = t5 := of_decide_eq_true h
      exact Ret.mk ⟨by rw [if_pos (by omega)], hx'⟩
    · have h := of_decide_eq_false h
      rw [w64 (by omega) (by have := hx.2; omega)]
      exact ⟨⟨rfl, rfl, by omega, by omega, by omega, hx'⟩, by ((try dsimp only); omega)⟩
  · have h := of_decide_eq_false h
    exact Ret.mk ⟨by rw [if_neg (by omega)], hx'⟩
theorem Parts_spec {x y : Int} (hx : Byte x) (hy : Byte y) (w : World) : stopcockref01_Parts.C (fl x) (fl y) w (Ret fun r w' => r = .tuple #[.int .i64 (if whole x y then x else 0), .int .i64 (if whole x y then y else 0), .int .i64 (if whole x y then 0 else 2)] ∧ Ex w w') := by
  apply stopcockref01_Parts.ok
  unfold stopcockref01_Parts.main
  refine callP.use (part_spec hx (by omega) _) ?_
  rintro _ w1 ⟨rfl, x1⟩
  try dsimp only [dI_i64, dI_u8, dI_u16, dI_u32, dB_bool, dS_slice, dP_ptr, dT_tup, dA_agg, dStr_str, dF_f, dC_c, dM_m, optP_some, ga0, ga1, ga2, ga3, ga4, cond_true, cond_false, chk_true, Bool.not_true, Bool.not_false, Option.isNone_none, Option.isNone_some, List.toList_toArray]
  refine callP.use (part_spec hy (by omega) _) ?_
  rintro _ w3 ⟨rfl, x3⟩
  try dsimp only [dI_i64, dI_u8, dI_u16, dI_u32, dB_bool, dS_slice, dP_ptr, dT_tup, dA_agg, dStr_str, dF_f, dC_c, dM_m, optP_some, ga0, ga1, ga2, ga3, ga4, cond_true, cond_false, chk_true, Bool.not_true, Bool.not_false, Option.isNone_none, Option.isNone_some, List.toList_toArray]
  have hx0 := hx.1
  have hy0 := hy.1
  refine cond_of (fun h => ?_) (fun h => ?_)
  · have h := of_decide_eq_true h
    have : whole x y = false := by
      unfold whole
      split at h
      · omega
      · simp; omega
    rw [this]
    exact Ret.mk ⟨rfl, x1.trans x3⟩
  have h := of_decide_eq_false h
  have hx2 : x < 24 := by
    by_cases c : x < 24
    · exact c
    · rw [if_neg c] at h; omega
  refine cond_of (fun h => ?_) (fun h => ?_)
  · have h := of_decide_eq_true h
    have : whole x y = false := by
      unfold whole
      split at h
      · omega
      · simp; omega
    rw [this]
    exact Ret.mk ⟨rfl, x1.trans x3⟩
  have h := of_decide_eq_false h
  have hy2 : y < 16 := by
    by_cases c : y < 16
    · exact c
    · rw [if_neg c] at h; omega
  have : whole x y = true := by simp [whole, hx2, hy2]
  rw [this, if_pos hx2, if_pos hy2]
  exact Ret.mk ⟨rfl, x1.trans x3⟩
theorem refWhole_spec (x y : Int) (w : World) (hx : Byte x) (hy : Byte y) : stopcockref01_Whole.C (fl x) (fl y) w (Ret fun r w' => r = .bool (whole x y) ∧ Ex w w') := by
  apply stopcockref01_Whole.ok
  unfold stopcockref01_Whole.main
  refine callP.use (Parts_spec hx hy w) ?_
  rintro _ w1 ⟨rfl, x1⟩
  try dsimp only [dI_i64, dI_u8, dI_u16, dI_u32, dB_bool, dS_slice, dP_ptr, dT_tup, dA_agg, dStr_str, dF_f, dC_c, dM_m, optP_some, ga0, ga1, ga2, ga3, ga4, cond_true, cond_false, chk_true, Bool.not_true, Bool.not_false, Option.isNone_none, Option.isNone_some, List.toList_toArray]
  refine Ret.mk ⟨?_, x1⟩
  cases whole x y <;> rfl

/-! ### Check -/
theorem refCheck_spec {d : Dl} (hd : d.wf) (w : World) : stopcockref07_Check.C d.k d.v d.o d.b (fl d.x) (fl d.y) w (Ret fun r w' => ∃ e, r = .int .i64 e ∧ (e = 0 ↔ chk0 d = 0) ∧ Ex w w') := by
  have hwh := refWhole_spec
  apply stopcockref07_Check.ok
  unfold stopcockref07_Check.main
  obtain ⟨k, v, o, b, x, y⟩ := d
  obtain ⟨hx, hy⟩ := hd
  dsimp only at hx hy ⊢
  rw [fine_iff hx hy]
  rintro b1 w1 rfl rfl
  have o1 := Owns.new (w := w) [.int .i64 k, .int .i64 v, .int .i64 o, .int .i64 b, .complex .f64 (fl x) (fl y)] ty_api_Delta
  have x1 := Ex.alloc w (.cells #[.int .i64 k, .int .i64 v, .int .i64 o, .int .i64 b, .complex .f64 (fl x) (fl y)] ty_api_Delta)
  generalize hb1 : w.heap.size = b1 at o1 ⊢
  generalize w.alloc (.cells #[.int .i64 k, .int .i64 v, .int .i64 o, .int .i64 b, .complex .f64 (fl x) (fl y)] ty_api_Delta) = w1 at o1 x1 ⊢
  obtain ⟨_, _, _, _, _, eX⟩ := fl_byte hx
  obtain ⟨_, _, _, _, _, eY⟩ := fl_byte hy
  have k3 : ∀ (t5 t6 : Bool) (w' : World), Ex w w' → (0 ≤ v ∧ v < 8) → ((t5 = true ∧ t6 = true) ↔ ((k = 1 ∧ (1 ≤ b ∧ b < 33) ∧ o = 0 ∧ x = 0 ∧ y = 0) ∨ (k = 2 ∧ o = 0 ∧ b = 0 ∧ x = 0 ∧ y = 0) ∨ (k = 3 ∧ (0 ≤ o ∧ o < 8) ∧ o ≠ v ∧ b = 0 ∧ x = 0 ∧ y = 0) ∨ (k = 4 ∧ (0 ≤ b ∧ b < 32) ∧ o = 0 ∧ x < 24 ∧ y < 16) ∨ (k = 5 ∧ (0 ≤ b ∧ b < 32) ∧ o = 0 ∧ x = 0 ∧ y = 0))) →
      stopcockref07_Check.k3 t5 t6 w' (Ret fun r w' => ∃ e, r = .int .i64 e ∧ (e = 0 ↔ (0 ≤ v ∧ v < 8) ∧ ((k = 1 ∧ (1 ≤ b ∧ b < 33) ∧ o = 0 ∧ x = 0 ∧ y = 0) ∨ (k = 2 ∧ o = 0 ∧ b = 0 ∧ x = 0 ∧ y = 0) ∨ (k = 3 ∧ (0 ≤ o ∧ o < 8) ∧ o ≠ v ∧ b = 0 ∧ x = 0 ∧ y = 0) ∨ (k = 4 ∧ (0 ≤ b ∧ b < 32) ∧ o = 0 ∧ x < 24 ∧ y < 16) ∨ (k = 5 ∧ (0 ≤ b ∧ b < 32) ∧ o = 0 ∧ x = 0 ∧ y = 0))) ∧ Ex w w') := by
    intro t5 t6 w' hx' hv ht
    unfold stopcockref07_Check.k3
    rw [← ht]
    cases t5 <;> cases t6 <;> simp only [Bool.not_true, Bool.not_false, cond_true, cond_false] <;> refine Ret.mk ⟨_, rfl, ?_, hx'⟩ <;> simp [hv]
  have k2 : ∀ (t3 t4 : Bool), (t3 = true ↔ (0 ≤ v ∧ v < 8)) → (t4 = true ↔ (0 ≤ b ∧ b < 32)) → stopcockref07_Check.k2 b1 t3 t4 w1 (Ret fun r w' => ∃ e, r = .int .i64 e ∧ (e = 0 ↔ (0 ≤ v ∧ v < 8) ∧ ((k = 1 ∧ (1 ≤ b ∧ b < 33) ∧ o = 0 ∧ x = 0 ∧ y = 0) ∨ (k = 2 ∧ o = 0 ∧ b = 0 ∧ x = 0 ∧ y = 0) ∨ (k = 3 ∧ (0 ≤ o ∧ o < 8) ∧ o ≠ v ∧ b = 0 ∧ x = 0 ∧ y = 0) ∨ (k = 4 ∧ (0 ≤ b ∧ b < 32) ∧ o = 0 ∧ x < 24 ∧ y < 16) ∨ (k = 5 ∧ (0 ≤ b ∧ b < 32) ∧ o = 0 ∧ x = 0 ∧ y = 0))) ∧ Ex w w') := by
    intro t3 t4 h3 h4
    unfold stopcockref07_Check.k2
    refine ⟨o, o1.at (by rfl), fl x, fl y, o1.at (by rfl), k, o1.at (by rfl), ?_⟩
    rw [eX, eY]
    have bad5 : ∀ {e : Int}, e ≠ 0 → ¬ ((0 ≤ v ∧ v < 8) ∧ ((k = 1 ∧ (1 ≤ b ∧ b < 33) ∧ o = 0 ∧ x = 0 ∧ y = 0) ∨ (k = 2 ∧ o = 0 ∧ b = 0 ∧ x = 0 ∧ y = 0) ∨ (k = 3 ∧ (0 ≤ o ∧ o < 8) ∧ o ≠ v ∧ b = 0 ∧ x = 0 ∧ y = 0) ∨ (k = 4 ∧ (0 ≤ b ∧ b < 32) ∧ o = 0 ∧ x < 24 ∧ y < 16) ∨ (k = 5 ∧ (0 ≤ b ∧ b < 32) ∧ o = 0 ∧ x = 0 ∧ y = 0))) → ∀ w', Ex w w' → Ret (fun r w' => ∃ e, r = .int .i64 e ∧ (e = 0 ↔ (0 ≤ v ∧ v < 8) ∧ ((k = 1 ∧ (1 ≤ b ∧ b < 33) ∧ o = 0 ∧ x = 0 ∧ y = 0) ∨ (k = 2 ∧ o = 0 ∧ b = 0 ∧ x = 0 ∧ y = 0) ∨ (k = 3 ∧ (0 ≤ o ∧ o < 8) ∧ o ≠ v ∧ b = 0 ∧ x = 0 ∧ y = 0) ∨ (k = 4 ∧ (0 ≤ b ∧ b < 32) ∧ o = 0 ∧ x < 24 ∧ y < 16) ∨ (k = 5 ∧ (0 ≤ b ∧ b < 32) ∧ o = 0 ∧ x = 0 ∧ y = 0))) ∧ Ex w w') (.returned (.int .i64 e)) w' :=
      fun he hn w' hw' => Ret.mk ⟨_, rfl, ⟨fun h => (he h).elim, fun h => (hn h).elim⟩, hw'⟩
    refine cond_of (fun h => ?_) (fun h => ?_)
    · obtain rfl : k = 1 := by simpa using h
      refine cond_of (fun h => ?_) (fun h => ?_)
      · have : ¬ (0 ≤ v ∧ v < 8) := by rw [← h3]; simpa using h
        exact bad5 (by decide) (by omega) _ x1
      have hv : 0 ≤ v ∧ v < 8 := h3.1 (by simpa using h)
      refine ⟨b, o1.at (by rfl), ?_⟩
      refine cond_of (fun h => ?_) (fun h => ?_)
      · have h := of_decide_eq_true h
        exact bad5 (by decide) (by omega) _ x1
      have h1 := of_decide_eq_false h
      refine ⟨b, o1.at (by rfl), ?_⟩
      refine cond_of (fun h => ?_) (fun h => ?_)
      · have h := of_decide_eq_true h
        exact bad5 (by decide) (by omega) _ x1
      have h2 := of_decide_eq_false h
      refine k3 _ _ _ x1 hv ?_
      simp only [beq_iff_eq, Bool.and_eq_true, decide_eq_true_eq, true_and, and_true]
      constructor <;> intro h <;> omega
    have hk1 : ¬ k = 1 := by simpa using h
    refine cond_of (fun h => ?_) (fun h => ?_)
    · obtain rfl : k = 2 := by simpa using h
      refine cond_of (fun h => ?_) (fun h => ?_)
      · have : ¬ (0 ≤ v ∧ v < 8) := by rw [← h3]; simpa using h
        exact bad5 (by decide) (by omega) _ x1
      have hv : 0 ≤ v ∧ v < 8 := h3.1 (by simpa using h)
      refine ⟨b, o1.at (by rfl), ?_⟩
      refine cond_of (fun h => ?_) (fun h => ?_)
      · have h : ¬ b = 0 := by simpa using h
        exact bad5 (by decide) (by omega) _ x1
      have h1 : b = 0 := by simpa using h
      refine k3 _ _ _ x1 hv ?_
      simp only [beq_iff_eq, Bool.and_eq_true, decide_eq_true_eq, true_and, and_true]
      constructor <;> intro h <;> omega
    have hk2 : ¬ k = 2 := by simpa using h
    refine cond_of (fun h => ?_) (fun h => ?_)
    · obtain rfl : k = 3 := by simpa using h
      refine cond_of (fun h => ?_) (fun h => ?_)
      · have : ¬ (0 ≤ v ∧ v < 8) := by rw [← h3]; simpa using h
        exact bad5 (by decide) (by omega) _ x1
      have hv : 0 ≤ v ∧ v < 8 := h3.1 (by simpa using h)
      refine ⟨o, o1.at (by rfl), ?_⟩
      refine cond_of (fun h => ?_) (fun h => ?_)
      · have h := of_decide_eq_true h
        exact bad5 (by decide) (by omega) _ x1
      have h1 := of_decide_eq_false h
      refine ⟨o, o1.at (by rfl), ?_⟩
      refine cond_of (fun h => ?_) (fun h => ?_)
      · have h := of_decide_eq_true h
        exact bad5 (by decide) (by omega) _ x1
      have h2 := of_decide_eq_false h
      refine ⟨o, o1.at (by rfl), v, o1.at (by rfl), ?_⟩
      refine cond_of (fun h => ?_) (fun h => ?_)
      · have h : o = v := by simpa using h
        exact bad5 (by decide) (by omega) _ x1
      have h5 : ¬ o = v := by simpa using h
      refine ⟨b, o1.at (by rfl), ?_⟩
      refine cond_of (fun h => ?_) (fun h => ?_)
      · have h : ¬ b = 0 := by simpa using h
        exact bad5 (by decide) (by omega) _ x1
      have h6 : b = 0 := by simpa using h
      refine k3 _ _ _ x1 hv ?_
      simp only [beq_iff_eq, Bool.and_eq_true, decide_eq_true_eq, true_and, and_true]
      constructor <;> intro h <;> omega
    have hk3 : ¬ k = 3 := by simpa using h
    refine cond_of (fun h => ?_) (fun h => ?_)
    · obtain rfl : k = 4 := by simpa using h
      refine cond_of (fun h => ?_) (fun h => ?_)
      · have : ¬ (0 ≤ v ∧ v < 8) := by rw [← h3]; simpa using h
        exact bad5 (by decide) (by omega) _ x1
      have hv : 0 ≤ v ∧ v < 8 := h3.1 (by simpa using h)
      refine cond_of (fun h => ?_) (fun h => ?_)
      · have : ¬ (0 ≤ b ∧ b < 32) := by rw [← h4]; simpa using h
        exact bad5 (by decide) (by omega) _ x1
      have hb : 0 ≤ b ∧ b < 32 := h4.1 (by simpa using h)
      refine ⟨fl x, fl y, o1.at (by rfl), ?_⟩
      refine callP.use (hwh x y _ hx hy) ?_
      rintro _ w2 ⟨rfl, x2⟩
      try dsimp only [dI_i64, dI_u8, dI_u16, dI_u32, dB_bool, dS_slice, dP_ptr, dT_tup, dA_agg, dStr_str, dF_f, dC_c, dM_m, optP_some, ga0, ga1, ga2, ga3, ga4, cond_true, cond_false, chk_true, Bool.not_true, Bool.not_false, Option.isNone_none, Option.isNone_some, List.toList_toArray]
      refine cond_of (fun h => ?_) (fun h => ?_)
      · have h : ¬ (x < 24 ∧ y < 16) := by simp [whole] at h; omega
        exact bad5 (by decide) (by omega) _ (x1.trans x2)
      have h : x < 24 ∧ y < 16 := by simp [whole] at h; omega
      refine k3 _ _ _ (x1.trans x2) hv ?_
      simp only [beq_iff_eq, Bool.and_eq_true, decide_eq_true_eq, true_and, and_true]
      constructor <;> intro h <;> omega
    have hk4 : ¬ k = 4 := by simpa using h
    refine cond_of (fun h => ?_) (fun h => ?_)
    · obtain rfl : k = 5 := by simpa using h
      refine cond_of (fun h => ?_) (fun h => ?_)
      · have : ¬ (0 ≤ v ∧ v < 8) := by rw [← h3]; simpa using h
        exact bad5 (by decide) (by omega) _ x1
      have hv : 0 ≤ v ∧ v < 8 := h3.1 (by simpa using h)
      refine cond_of (fun h => ?_) (fun h => ?_)
      · have : ¬ (0 ≤ b ∧ b < 32) := by rw [← h4]; simpa using h
        exact bad5 (by decide) (by omega) _ x1
      have hb : 0 ≤ b ∧ b < 32 := h4.1 (by simpa using h)
      refine k3 _ _ _ x1 hv ?_
      simp only [beq_iff_eq, Bool.and_eq_true, decide_eq_true_eq, true_and, and_true]
      constructor <;> intro h <;> omega
    have hk5 : ¬ k = 5 := by simpa using h
    exact bad5 (by decide) (by omega) _ x1
  have k1 : ∀ (t3 : Bool), (t3 = true ↔ (0 ≤ v ∧ v < 8)) → stopcockref07_Check.k1 b1 t3 w1 (Ret fun r w' => ∃ e, r = .int .i64 e ∧ (e = 0 ↔ (0 ≤ v ∧ v < 8) ∧ ((k = 1 ∧ (1 ≤ b ∧ b < 33) ∧ o = 0 ∧ x = 0 ∧ y = 0) ∨ (k = 2 ∧ o = 0 ∧ b = 0 ∧ x = 0 ∧ y = 0) ∨ (k = 3 ∧ (0 ≤ o ∧ o < 8) ∧ o ≠ v ∧ b = 0 ∧ x = 0 ∧ y = 0) ∨ (k = 4 ∧ (0 ≤ b ∧ b < 32) ∧ o = 0 ∧ x < 24 ∧ y < 16) ∨ (k = 5 ∧ (0 ≤ b ∧ b < 32) ∧ o = 0 ∧ x = 0 ∧ y = 0))) ∧ Ex w w') := by
    intro t3 h3
    unfold stopcockref07_Check.k1
    refine ⟨b, o1.at (by rfl), ?_⟩
    refine cond_of (fun h => ?_) (fun h => ?_)
    · have h := of_decide_eq_true h
      exact ⟨b, o1.at (by rfl), k2 _ _ h3 (by simp only [decide_eq_true_eq]; omega)⟩
    · have h := of_decide_eq_false h
      exact k2 _ _ h3 (by simp; omega)
  refine ⟨v, o1.at (by rfl), ?_⟩
  refine cond_of (fun h => ?_) (fun h => ?_)
  · have h := of_decide_eq_true h
    exact ⟨v, o1.at (by rfl), k1 _ (by simp only [decide_eq_true_eq]; omega)⟩
  · have h := of_decide_eq_false h
    exact k1 _ (by simp; omega)
theorem refEncode_spec {d : Dl} (hd : d.wf) (hc : chk0 d = 0) (w : World) : stopcockref07_Encode.C d.k d.v d.o d.b (fl d.x) (fl d.y) w (Ret fun r w' => ∃ p c, r = .tuple #[.slice p 5 c, .int .i64 0] ∧ Ex w w' ∧ Owns w' w.heap.size ty_uint8 1 p 5 c (v8 (encB d))) := by
  apply stopcockref07_Encode.ok
  unfold stopcockref07_Encode.main
  rintro b1 w1 rfl rfl
  have o1 := Owns.new (w := w) d.cells ty_api_Delta
  have x1 := Ex.alloc w (.cells d.cells.toArray ty_api_Delta)
  unfold Dl.cells at o1 x1
  generalize w.alloc (.cells #[.int .i64 d.k, .int .i64 d.v, .int .i64 d.o, .int .i64 d.b, .complex .f64 (fl d.x) (fl d.y)] ty_api_Delta) = w1 at o1 x1 ⊢
  refine ⟨d.cells.toArray, rfl, o1.cells, ?_⟩
  refine callP.use (refCheck_spec hd _) ?_
  rintro _ w2 ⟨e, rfl, he, x2⟩
  try dsimp only [dI_i64, dI_u8, dI_u16, dI_u32, dB_bool, dS_slice, dP_ptr, dT_tup, dA_agg, dStr_str, dF_f, dC_c, dM_m, optP_some, ga0, ga1, ga2, ga3, ga4, cond_true, cond_false, chk_true, Bool.not_true, Bool.not_false, Option.isNone_none, Option.isNone_some, List.toList_toArray]
  obtain rfl : e = 0 := he.2 hc
  rw [cond_neg (by rfl)]
  have x12 := x1.trans x2
  have hf := fine_of hd hc
  have hfv := hf.v; have hfo := hf.o; have hfk := hf.k; have hfb := hf.b; have hfx := hf.x; have hfy := hf.y
  refine ⟨fl d.x, fl d.y, (o1.ex x2).at (by rfl), ?_⟩
  refine callP.use (Parts_spec hd.1 hd.2 _) ?_
  rintro _ w4 ⟨rfl, x4⟩
  try dsimp only [dI_i64, dI_u8, dI_u16, dI_u32, dB_bool, dS_slice, dP_ptr, dT_tup, dA_agg, dStr_str, dF_f, dC_c, dM_m, optP_some, ga0, ga1, ga2, ga3, ga4, cond_true, cond_false, chk_true, Bool.not_true, Bool.not_false, Option.isNone_none, Option.isNone_some, List.toList_toArray]
  have hw : whole d.x d.y = true := by simp [whole]; omega
  rw [hw]
  have o4 := o1.ex (x2.trans x4)
  refine ⟨d.k, o4.at (by rfl), d.v, o4.at (by rfl), d.o, o4.at (by rfl), d.b, o4.at (by rfl), ?_⟩
  rw [w64 (x := 16 * d.v) (by omega) (by omega), w64 (x := 16 * d.v + d.o) (by omega) (by omega)]
  simp only [if_true]
  rw [wu8, wu8, wu8, wu8, wu8, Int.emod_eq_of_lt (a := d.k) (by omega) (by omega), Int.emod_eq_of_lt (a := 16 * d.v + d.o) (by omega) (by omega), Int.emod_eq_of_lt (a := d.b) (by omega) (by omega), Int.emod_eq_of_lt (a := d.x) (by omega) (by omega), Int.emod_eq_of_lt (a := d.y) (by omega) (by omega), Int.mul_comm 16 d.v]
  rintro b4 w6 rfl rfl
  have o6 := Owns.alloc (w := w4) (v8 (encB d)) ty_uint8 1 5 rfl
  have x6 := Ex.alloc w4 (.cells (v8 (encB d)).toArray ty_uint8)
  exact Ret.mk ⟨some ⟨w4.heap.size, 0, none⟩, 5, rfl, x12.trans (x4.trans x6), o6.lower (x12.trans x4).size⟩

/-! ### Decode -/
theorem Make_spec (a b : Int) (w : World) : stopcockref01_Make.C a b w (Ret fun r w' => r = .complex .f64 (fl a) (fl b) ∧ w' = w) := by
  apply stopcockref01_Make.ok
  exact Ret.mk ⟨rfl, rfl⟩
theorem refDecode_spec {p : Option Addr} {c : Nat} {xs : List Int} {w : World} (hc : CellsO w p (v8 xs)) (hn : xs.length = 5) (hb : Bytes xs) :
    stopcockref07_Decode.C p 5 c w (Ret fun v w' => v = .tuple #[.agg (decV xs).toArray, .int .i64 (if chk0 (decD xs) = 0 then 0 else 2)] ∧ Ex w w') := by
  apply stopcockref07_Decode.ok
  unfold stopcockref07_Decode.main
  have hwf := decD_wf hb
  have k1 : ∀ {w' : World} {b1 b2 B1 B2 : Nat} {zs : List Value}, Owns w' B1 ty_api_Delta 5 (some ⟨b1, 0, none⟩) 1 1 zs → Owns w' B2 ty_api_Delta 5 (some ⟨b2, 0, none⟩) 1 1 (decD xs).cells → b1 ≠ b2 → w.heap.size ≤ b1 → Ex w w' →
      stopcockref07_Decode.k1 b1 b2 w' (Ret fun v w' => v = .tuple #[.agg (decV xs).toArray, .int .i64 (if chk0 (decD xs) = 0 then 0 else 2)] ∧ Ex w w') := by
    intro w' b1 b2 B1 B2 zs o1 o2 hne hb1 hx
    unfold stopcockref07_Decode.k1
    refine ⟨(decD xs).cells.toArray, rfl, o2.cells, ?_⟩
    refine callP.use (refCheck_spec hwf _) ?_
    rintro _ w5 ⟨e, rfl, he, x5⟩
    try dsimp only [dI_i64, dI_u8, dI_u16, dI_u32, dB_bool, dS_slice, dP_ptr, dT_tup, dA_agg, dStr_str, dF_f, dC_c, dM_m, optP_some, ga0, ga1, ga2, ga3, ga4, cond_true, cond_false, chk_true, Bool.not_true, Bool.not_false, Option.isNone_none, Option.isNone_some, List.toList_toArray]
    refine cond_of (fun h => ?_) (fun h => ?_)
    · have h : ¬ e = 0 := by simpa using h
      have hc : ¬ chk0 (decD xs) = 0 := fun c => h (he.2 c)
      refine (o1.ex x5).put (by rfl) cells_one fun w7 k7 o7 => ?_
      refine ⟨zcells.toArray, rfl, o7.cells, Ret.mk ⟨?_, (hx.trans x5).then k7 fun i hi => by omega⟩⟩
      unfold decV
      rw [if_neg hc, if_neg hc]
    · have h : e = 0 := by simpa using h
      have hc : chk0 (decD xs) = 0 := he.1 h
      refine ⟨(decD xs).cells.toArray, rfl, (o2.ex x5).cells, chk_of (by rfl) ?_⟩
      refine (o1.ex x5).put (by rfl) cells_one fun w7 k7 o7 => ?_
      refine ⟨(decD xs).cells.toArray, rfl, o7.cells, Ret.mk ⟨?_, (hx.trans x5).then k7 fun i hi => by omega⟩⟩
      unfold decV
      rw [if_pos hc, if_pos hc]
  rintro b1 w1 rfl rfl
  have o1 := Owns.new (w := w) zcells ty_api_Delta
  have x1 := Ex.alloc w (.cells zcells.toArray ty_api_Delta)
  unfold zcells at o1 x1
  have hb1 : w.heap.size ≤ w.heap.size := Nat.le_refl _
  generalize hbe : w.heap.size = b1 at o1 hb1 k1 ⊢
  generalize w.alloc (.cells #[.int .i64 0, .int .i64 0, .int .i64 0, .int .i64 0, .complex .f64 0 0] ty_api_Delta) = w1 at o1 x1 ⊢
  obtain ⟨a, b, c2, d, e, rfl⟩ := five hn
  have hc1 := (hc.ex x1).ex (Ex.drew w1)
  obtain ⟨q, rfl, r0⟩ := hc1.one (v := .int .u8 a) (by rfl)
  have ha : Byte a := hb _ (by simp)
  have hbb : Byte b := hb _ (by simp)
  have hcc : Byte c2 := hb _ (by simp)
  have hdd : Byte d := hb _ (by simp)
  have hee : Byte e := hb _ (by simp)
  have wb : ∀ {x : Int}, Byte x → IntKind.i64.wrap x = x := fun h => w64 (by have := h.1; omega) (by have := h.2; omega)
  rw [cond_neg (by rfl)]
  refine chk_of (by decide) ?_
  try dsimp only [dI_i64, dI_u8, dI_u16, dI_u32, dB_bool, dS_slice, dP_ptr, dT_tup, dA_agg, dStr_str, dF_f, dC_c, dM_m, optP_some, ga0, ga1, ga2, ga3, ga4, cond_true, cond_false, chk_true, Bool.not_true, Bool.not_false, Option.isNone_none, Option.isNone_some, List.toList_toArray]
  refine ⟨a, r0, chk_of (by decide) ?_⟩
  refine ⟨b, hc1 1 _ rfl, chk_of (by decide) ?_⟩
  refine ⟨b, hc1 1 _ rfl, chk_of (by decide) ?_⟩
  refine ⟨c2, hc1 2 _ rfl, chk_of (by decide) ?_⟩
  refine ⟨d, hc1 3 _ rfl, chk_of (by decide) ?_⟩
  refine ⟨e, hc1 4 _ rfl, ?_⟩
  have at0 : ∀ {w3 : World}, CellsO w3 (some q) (v8 [a, b, c2, d, e]) → w3.cell? q = some (.int .u8 a) := fun hc3 => by
    have := hc3 0 _ rfl
    rwa [show q.add 0 = q from Addr.add_zero' q] at this
  have e1 : IntKind.i64.wrap (Int.tdiv b 16) = b / 16 := by
    rw [Int.tdiv_eq_ediv_of_nonneg hbb.1, w64 (by have := hbb.1; omega) (by have := hbb.2; omega)]
  have e2 : Int.tmod b 16 = b % 16 := Int.tmod_eq_emod_of_nonneg hbb.1
  rw [wb ha, wb hbb, wb hcc, wb hdd, wb hee, e1, e2]
  refine ⟨?_, ?_⟩
  · refine callP.use (Make_spec d e _) ?_
    rintro _ w3 ⟨rfl, hw3⟩
    subst hw3
    try dsimp only [dI_i64, dI_u8, dI_u16, dI_u32, dB_bool, dS_slice, dP_ptr, dT_tup, dA_agg, dStr_str, dF_f, dC_c, dM_m, optP_some, ga0, ga1, ga2, ga3, ga4, cond_true, cond_false, chk_true, Bool.not_true, Bool.not_false, Option.isNone_none, Option.isNone_some, List.toList_toArray]
    refine ⟨hc1 2 _ rfl, hc1 1 _ rfl, hc1 1 _ rfl, at0 hc1, ?_⟩
    rintro b2 w5 rfl rfl
    have o1d := o1.ex (Ex.drew w1)
    have o3 := Owns.new (w := w1.drew) zcells ty_api_Delta
    have x3 := Ex.alloc w1.drew (.cells zcells.toArray ty_api_Delta)
    unfold zcells at o3 x3
    have hne : w1.drew.heap.size ≠ b1 := by have := o1d.ge rfl; dsimp only at this; omega
    have hge : w.heap.size ≤ w1.drew.heap.size := (x1.trans (Ex.drew w1)).size
    generalize w1.drew.heap.size = b2 at o3 hne hge ⊢
    generalize w1.drew.alloc (.cells #[.int .i64 0, .int .i64 0, .int .i64 0, .int .i64 0, .complex .f64 0 0] ty_api_Delta) = w3 at o3 x3 ⊢
    have hc3 := hc1.ex x3
    refine ⟨rfl, hc3 2 _ rfl, hc3 1 _ rfl, hc3 1 _ rfl, at0 hc3, ?_⟩
    refine o3.put (by rfl) cells_one fun w4 k4 o4 => ?_
    exact k1 ((o1d.ex x3).kp k4 (fun x hx => by cases hx; exact fun e => hne e.symm)) o4 (fun e => hne e.symm) hb1 ((x1.trans ((Ex.drew w1).trans x3)).then k4 fun i hi => hi ▸ hge)
  · rintro b2 w5 rfl rfl
    have o1d := o1.ex (Ex.drew w1)
    have o3 := Owns.new (w := w1.drew) zcells ty_api_Delta
    have x3 := Ex.alloc w1.drew (.cells zcells.toArray ty_api_Delta)
    unfold zcells at o3 x3
    have hne : w1.drew.heap.size ≠ b1 := by have := o1d.ge rfl; dsimp only at this; omega
    have hge : w.heap.size ≤ w1.drew.heap.size := (x1.trans (Ex.drew w1)).size
    generalize w1.drew.heap.size = b2 at o3 hne hge ⊢
    generalize w1.drew.alloc (.cells #[.int .i64 0, .int .i64 0, .int .i64 0, .int .i64 0, .complex .f64 0 0] ty_api_Delta) = w3 at o3 x3 ⊢
    have hc3 := hc1.ex x3
    refine ⟨hc3 4 _ rfl, hc3 3 _ rfl, hc3 2 _ rfl, hc3 1 _ rfl, hc3 1 _ rfl, at0 hc3, ?_⟩
    refine callP.use (Make_spec d e _) ?_
    rintro _ w3' ⟨rfl, hw3⟩
    subst hw3
    try dsimp only [dI_i64, dI_u8, dI_u16, dI_u32, dB_bool, dS_slice, dP_ptr, dT_tup, dA_agg, dStr_str, dF_f, dC_c, dM_m, optP_some, ga0, ga1, ga2, ga3, ga4, cond_true, cond_false, chk_true, Bool.not_true, Bool.not_false, Option.isNone_none, Option.isNone_some, List.toList_toArray]
    refine ⟨hc3 2 _ rfl, hc3 1 _ rfl, hc3 1 _ rfl, at0 hc3, ?_⟩
    refine o3.put (by rfl) cells_one fun w4 k4 o4 => ?_
    exact k1 ((o1d.ex x3).kp k4 (fun x hx => by cases hx; exact fun e => hne e.symm)) o4 (fun e => hne e.symm) hb1 ((x1.trans ((Ex.drew w1).trans x3)).then k4 fun i hi => hi ▸ hge)

/-! ### Deltas compared -/
theorem part_at {w : World} {t off : Nat} {cs : Array Value} {v : Value} (h : partP cx t cs off fun u => u = v) : (part t cs off).run Try.prog w = .ok v w := by
  obtain ⟨u, hu, rfl⟩ := partP_sound (H := w.heap) cxok h
  exact hu w rfl
theorem eq_self {d : Dl} (hd : d.wf) (xo yo : Operand) : eqRun Try.prog .neq ty_api_Delta xo yo (.agg d.cells.toArray) (.agg d.cells.toArray) false := by
  intro w
  obtain ⟨_, _, _, _, eX, _⟩ := fl_byte hd.1
  obtain ⟨_, _, _, _, eY, _⟩ := fl_byte hd.2
  have p0 : ∀ w : World, (part ty_int d.cells.toArray 0).run Try.prog w = .ok (.int .i64 d.k) w := fun w => part_at (by rfl)
  have p1 : ∀ w : World, (part ty_int d.cells.toArray 1).run Try.prog w = .ok (.int .i64 d.v) w := fun w => part_at (by rfl)
  have p2 : ∀ w : World, (part ty_int d.cells.toArray 2).run Try.prog w = .ok (.int .i64 d.o) w := fun w => part_at (by rfl)
  have p3 : ∀ w : World, (part ty_int d.cells.toArray 3).run Try.prog w = .ok (.int .i64 d.b) w := fun w => part_at (by rfl)
  have p4 : ∀ w : World, (part ty_complex128 d.cells.toArray 4).run Try.prog w = .ok (.complex .f64 (fl d.x) (fl d.y)) w := fun w => part_at (by rfl)
  have hi : ∀ (a : Int) (w : World), (Op.equalIn 9999 ty_int (.int .i64 a) (.int .i64 a)).run Try.prog w = .ok true w := fun a w => by
    have := run_equalIn_int (P := Try.prog) w 9998 ty_int .i64 .i64 a a (by kernel_rfl)
    simpa using this
  have gen : ∀ (P : Program) (n t x y : Nat) (w : World), P.underlying t = some (.complex .f64) → Op.floatEq .f64 x x = true → Op.floatEq .f64 y y = true → (Op.equalIn (n + 1) t (.complex .f64 x y) (.complex .f64 x y)).run P w = .ok true w := fun P n t x y w hu e1 e2 => by
    simp [Op.equalIn, run_underlying hu, e1, e2]
  have hcx : ∀ w : World, (Op.equalIn 9999 ty_complex128 (.complex .f64 (fl d.x) (fl d.y)) (.complex .f64 (fl d.x) (fl d.y))).run Try.prog w = .ok true w := fun w => by
    have hu : Try.prog.underlying ty_complex128 = some (.complex .f64) := by kernel_rfl
    exact gen Try.prog 9998 ty_complex128 (fl d.x) (fl d.y) w hu eX eY
  have hfs : (Try.prog.fieldsOf ty_api_Delta).toList = [⟨ "Kind", ty_int, 0, false, "", "", 0⟩, ⟨ "Vol", ty_int, 1, false, "", "", 8⟩, ⟨ "Other", ty_int, 2, false, "", "", 16⟩, ⟨ "Block", ty_int, 3, false, "", "", 24⟩, ⟨ "Place", ty_complex128, 4, false, "", "", 32⟩] := by kernel_rfl
  have hs : (Op.equalIn 10000 ty_api_Delta (.agg d.cells.toArray) (.agg d.cells.toArray)).run Try.prog w = .ok true w := by
    rw [run_equalIn_struct w 9999 ty_api_Delta _ _ (by kernel_rfl) (by kernel_rfl), hfs]
    generalize (9999 : Nat) = dd at hi hcx ⊢
    clear hfs
    generalize d.cells.toArray = cs at p0 p1 p2 p3 p4 ⊢
    generalize ty_int = ti at p0 p1 p2 p3 hi ⊢
    generalize ty_complex128 = tc at p4 hcx ⊢
    simp only [Op.eqFields, ne_eq, String.reduceEq, not_false_eq_true, if_true, Sem.run_bind, p0, p1, p2, p3, p4, hi, hcx, Result.andThen_ok, Bool.not_true, Bool.false_eq_true, if_false, Sem.run_pure]
  rw [Sem.run_bind, run_eqGuard_agg w .neq ty_api_Delta xo yo _ _ (by kernel_rfl), Result.andThen_ok, run_neq_struct, hs]
  rfl
end Go.Proofs.Ytnbegeghcjldfaa.G
