/-
  Geometries: plat.Check, Capacity, Sectors, Bound, the document's May and Capacity; the laws PlatGrows and PlatSizes: the walks.
-/
import Derived.Test.YtmkbcpbondjfjaaG1
import Derived.Test.YtmkbcpbondjfjaaG2
import Derived.Test.YtmkbcpbondjfjaaDecR
namespace Go.Proofs.Ytmkbcpbondjfjaa.G
open Go.Dec Go.RowKit
set_option linter.unusedVariables false
set_option linter.unusedSimpArgs false

def two (s b : Int) : List Value := [.int .i64 s, .int .i64 b]
def At (w : World) (b : Nat) (s k : Int) : Prop := CellsO w (some ⟨b, 0, none⟩) (two s k)
theorem At.ex {w w' : World} {b : Nat} {s k : Int} (h : At w b s k) (hx : Ex w w') : At w' b s k := CellsO.ex hx h
theorem At.new (w : World) (s k : Int) (e : TypeId) : At (w.alloc (.cells #[.int .i64 s, .int .i64 k] e)) w.heap.size s k := CellsO.alloc (two s k) e
theorem At.c0 {w : World} {b : Nat} {s k : Int} (h : At w b s k) : w.cell? (⟨b, 0, none⟩ : Addr) = some (.int .i64 s) := by
  have := h 0 (.int .i64 s) rfl
  simpa [Addr.add] using this
theorem At.c1 {w : World} {b : Nat} {s k : Int} (h : At w b s k) : w.cell? (⟨b, 1, none⟩ : Addr) = some (.int .i64 k) := by
  have := h 1 (.int .i64 k) rfl
  simpa [Addr.add] using this
theorem At.both {w : World} {b : Nat} {s k : Int} (h : At w b s k) : CellsAt w (⟨b, 0, none⟩ : Addr) (#[Value.int .i64 s, Value.int .i64 k] : Array Value).toList := h

def may (s k : Int) : Bool := decide (6 ≤ s) && decide (s ≤ 24) && decide (2 ≤ k) && decide (k ≤ 16)
theorem may_iff {s k : Int} : may s k = true ↔ 6 ≤ s ∧ s ≤ 24 ∧ 2 ≤ k ∧ k ≤ 16 := by simp [may, and_assoc]
theorem may_false {s k : Int} (h : ¬(6 ≤ s ∧ s ≤ 24 ∧ 2 ≤ k ∧ k ≤ 16)) : may s k = false := by
  cases hm : may s k with
  | false => rfl
  | true => exact (h (may_iff.1 hm)).elim
theorem prod_le {s k : Int} (h : 6 ≤ s ∧ s ≤ 24 ∧ 2 ≤ k ∧ k ≤ 16) : 0 ≤ s * k ∧ s * k ≤ 384 := by
  have h1 : s * k ≤ 24 * 16 := Int.mul_le_mul h.2.1 h.2.2.2 (by omega) (by omega)
  have h2 := Int.mul_nonneg (a := s) (b := k) (by omega) (by omega)
  omega

theorem Check_spec (s k : Int) (w : World) : plat_Check.C s k w (Ret fun v w' => v = .int .i64 (if may s k then 0 else 1) ∧ Ex w w') := by
  apply plat_Check.ok
  unfold plat_Check.main
  rintro b w1 rfl rfl
  have ha := At.new w s k 23
  have hx := Ex.alloc w (.cells #[.int .i64 s, .int .i64 k] 23)
  refine ⟨s, ha.c0, cond_of (fun h => ?_) (fun h => ?_)⟩
  · have := of_decide_eq_true h
    rw [may_false (by omega)]
    exact Ret.mk ⟨rfl, hx⟩
  have h1 := of_decide_eq_false h
  refine ⟨s, ha.c0, cond_of (fun h => ?_) (fun h => ?_)⟩
  · have := of_decide_eq_true h
    rw [may_false (by omega)]
    exact Ret.mk ⟨rfl, hx⟩
  have h2 := of_decide_eq_false h
  refine ⟨k, ha.c1, cond_of (fun h => ?_) (fun h => ?_)⟩
  · have := of_decide_eq_true h
    rw [may_false (by omega)]
    exact Ret.mk ⟨rfl, hx⟩
  have h3 := of_decide_eq_false h
  refine ⟨k, ha.c1, cond_of (fun h => ?_) (fun h => ?_)⟩
  · have := of_decide_eq_true h
    rw [may_false (by omega)]
    exact Ret.mk ⟨rfl, hx⟩
  have h4 := of_decide_eq_false h
  rw [may_iff.2 (by omega)]
  exact Ret.mk ⟨rfl, hx⟩
theorem May_spec (s k : Int) (w : World) : stopcockref06_May.C s k w (Ret fun v w' => v = .bool (may s k) ∧ Ex w w') := by
  apply stopcockref06_May.ok
  unfold stopcockref06_May.main
  rintro b w1 rfl rfl
  have ha := At.new w s k 23
  have hx := Ex.alloc w (.cells #[.int .i64 s, .int .i64 k] 23)
  refine ⟨s, ha.c0, cond_of (fun h => ?_) (fun h => ?_)⟩
  · have h1 := of_decide_eq_true h
    refine ⟨s, ha.c0, cond_of (fun h => ?_) (fun h => ?_)⟩
    · have h2 := of_decide_eq_true h
      refine ⟨k, ha.c1, cond_of (fun h => ?_) (fun h => ?_)⟩
      · have h3 := of_decide_eq_true h
        refine ⟨k, ha.c1, Ret.mk ⟨?_, hx⟩⟩
        by_cases h4 : k ≤ 16
        · rw [decide_eq_true h4, may_iff.2 (by omega)]
        · rw [decide_eq_false h4, may_false (by omega)]
      · have := of_decide_eq_false h
        rw [may_false (by omega)]
        exact Ret.mk ⟨rfl, hx⟩
    · have := of_decide_eq_false h
      rw [may_false (by omega)]
      exact Ret.mk ⟨rfl, hx⟩
  · have := of_decide_eq_false h
    rw [may_false (by omega)]
    exact Ret.mk ⟨rfl, hx⟩
theorem Capacity_spec (s k : Int) (w : World) : plat_Capacity.C s k w (Ret fun v w' => v = .tuple #[.int .i64 (if may s k then (s - 4) * k else 0), .int .i64 (if may s k then 0 else 1)] ∧ Ex w w') := by
  apply plat_Capacity.ok
  unfold plat_Capacity.main
  rintro b w1 rfl rfl
  have ha := At.new w s k 23
  have hx := Ex.alloc w (.cells #[.int .i64 s, .int .i64 k] 23)
  refine ⟨_, rfl, ha.both, ?_⟩
  refine callP.use (Check_spec s k _) ?_
  rintro _ w2 ⟨rfl, h2⟩
  try dsimp only [dI_i64, dI_u8, dI_u16, dI_u32, dB_bool, dS_slice, dP_ptr, dT_tup, dA_agg, dStr_str, dF_f, dC_c, dM_m, optP_some, ga0, ga1, ga2, ga3, ga4, cond_true, cond_false, chk_true, Bool.not_true, Bool.not_false, Option.isNone_none, Option.isNone_some]
  cases hm : may s k with
  | false =>
    simp only [Bool.false_eq_true, if_false]
    rw [cond_pos (by decide)]
    exact Ret.mk ⟨rfl, hx.trans h2⟩
  | true =>
    simp only [if_true]
    have hh := may_iff.1 hm
    rw [cond_neg (by decide)]
    refine ⟨s, (ha.ex h2).c0, k, (ha.ex h2).c1, Ret.mk ⟨?_, hx.trans h2⟩⟩
    have hp := prod_le hh
    have e : (s - 4) * k = s * k - 4 * k := Int.sub_mul _ _ _
    rw [w64 (x := s - 2) (by omega) (by omega), w64 (x := s - 2 - 2) (by omega) (by omega), show s - 2 - 2 = s - 4 by omega, w64 (by omega) (by omega)]
theorem Sectors_spec (s k : Int) (w : World) : plat_Sectors.C s k w (Ret fun v w' => v = .tuple #[.int .i64 (if may s k then 40 + s * k else 0), .int .i64 (if may s k then 0 else 1)] ∧ Ex w w') := by
  apply plat_Sectors.ok
  unfold plat_Sectors.main
  rintro b w1 rfl rfl
  have ha := At.new w s k 23
  have hx := Ex.alloc w (.cells #[.int .i64 s, .int .i64 k] 23)
  refine ⟨_, rfl, ha.both, ?_⟩
  refine callP.use (Check_spec s k _) ?_
  rintro _ w2 ⟨rfl, h2⟩
  try dsimp only [dI_i64, dI_u8, dI_u16, dI_u32, dB_bool, dS_slice, dP_ptr, dT_tup, dA_agg, dStr_str, dF_f, dC_c, dM_m, optP_some, ga0, ga1, ga2, ga3, ga4, cond_true, cond_false, chk_true, Bool.not_true, Bool.not_false, Option.isNone_none, Option.isNone_some]
  cases hm : may s k with
  | false =>
    simp only [Bool.false_eq_true, if_false]
    rw [cond_pos (by decide)]
    exact Ret.mk ⟨rfl, hx.trans h2⟩
  | true =>
    simp only [if_true]
    have hp := prod_le (may_iff.1 hm)
    rw [cond_neg (by decide)]
    refine ⟨s, (ha.ex h2).c0, k, (ha.ex h2).c1, Ret.mk ⟨?_, hx.trans h2⟩⟩
    rw [w64 (x := s * k) (by omega) (by omega), w64 (by omega) (by omega)]
theorem refCapacity_spec (s k : Int) (w : World) (hh : 6 ≤ s ∧ s ≤ 24 ∧ 2 ≤ k ∧ k ≤ 16) : stopcockref06_Capacity.C s k w (Ret fun v w' => v = .int .i64 ((s - 4) * k) ∧ Ex w w') := by
  apply stopcockref06_Capacity.ok
  unfold stopcockref06_Capacity.main
  rintro b w1 rfl rfl
  have ha := At.new w s k 23
  have hx := Ex.alloc w (.cells #[.int .i64 s, .int .i64 k] 23)
  refine ⟨s, ha.c0, k, ha.c1, Ret.mk ⟨?_, hx⟩⟩
  have hp := prod_le hh
  have e : (s - 4) * k = s * k - 4 * k := Int.sub_mul _ _ _
  rw [w64 (x := s - 4) (by omega) (by omega), w64 (by omega) (by omega)]

/-! ### Places of whole parts -/
theorem near_all : ∀ n : Fin 25, fCmp .geq (FloatKind.f64.nearest (n.val : Int)) 0 = true ∧ fCmp .lss (FloatKind.f64.nearest (n.val : Int)) (FloatKind.f64.nearest 24) = decide (n.val < 24) ∧ fCmp .lss (FloatKind.f64.nearest (n.val : Int)) (FloatKind.f64.nearest 16) = decide (n.val < 16) ∧
    (FloatKind.f64.decode (FloatKind.f64.nearest (n.val : Int))).toInt .zero = some (n.val : Int) ∧ fCmp .eql (FloatKind.f64.nearest (n.val : Int)) (FloatKind.f64.nearest (n.val : Int)) = true := by decide +kernel
end Go.Proofs.Ytmkbcpbondjfjaa.G
