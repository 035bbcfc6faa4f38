/-
  Places: what axis and plat say of them, and the document's axis and plat; lists of places.
-/
import Derived.Test.YthgmebhkbbehmaaLeafB
namespace Go.Proofs.Ythgmebhkbbehmaa.G
open Go.Dec Go.RowKit
set_option linter.unusedVariables false
set_option linter.unusedSimpArgs false

/-! ### A place: none, or a segment and a slot -/
abbrev Pl := Option (Nat × Nat)
def nr (n : Nat) : Nat := FloatKind.f64.nearest (n : Int)
def neg1 : Nat := 13830554455654793216
def plR : Pl → Nat
  | none => neg1
  | some x => nr x.1
def plM : Pl → Nat
  | none => 0
  | some x => nr x.2
def plV (q : Pl) : Value := .complex .f64 (plR q) (plM q)
def okPl : Pl → Prop
  | none => True
  | some x => x.1 < 24 ∧ x.2 < 16
theorem near_all : ∀ n : _root_.Fin 25, fCmp .geq (FloatKind.f64.nearest (n.val : Int)) 0 = true ∧ fCmp .lss (FloatKind.f64.nearest (n.val : Int)) (FloatKind.f64.nearest 24) = decide (n.val < 24) ∧ fCmp .lss (FloatKind.f64.nearest (n.val : Int)) (FloatKind.f64.nearest 16) = decide (n.val < 16) ∧
    (FloatKind.f64.decode (FloatKind.f64.nearest (n.val : Int))).toInt .zero = some (n.val : Int) ∧ fCmp .eql (FloatKind.f64.nearest (n.val : Int)) neg1 = false := by decide +kernel
theorem near_eq : ∀ a b : _root_.Fin 24, fCmp .eql (FloatKind.f64.nearest (a.val : Int)) (FloatKind.f64.nearest (b.val : Int)) = decide (a.val = b.val) := by decide +kernel
theorem neg_eq : ∀ a : _root_.Fin 24, fCmp .eql neg1 (FloatKind.f64.nearest (a.val : Int)) = false := by decide +kernel
theorem nr_facts {n : Nat} (h : n ≤ 24) : fCmp .geq (nr n) 0 = true ∧ fCmp .lss (nr n) (FloatKind.f64.nearest 24) = decide (n < 24) ∧ fCmp .lss (nr n) (FloatKind.f64.nearest 16) = decide (n < 16) ∧ (FloatKind.f64.decode (nr n)).toInt .zero = some (n : Int) ∧ fCmp .eql (nr n) neg1 = false := near_all ⟨n, by omega⟩
theorem nr_eq {a b : Nat} (ha : a < 24) (hb : b < 24) : fCmp .eql (nr a) (nr b) = decide (a = b) := near_eq ⟨a, ha⟩ ⟨b, hb⟩
theorem nr_zero : nr 0 = 0 := by decide +kernel
theorem i64_min : IntKind.i64.min = -9223372036854775808 := by decide
theorem empty_eq {q : Pl} (h : okPl q) : (!(fCmp .eql (plR q) 13830554455654793216 && fCmp .eql (plM q) 0)) = q.isSome := by
  cases q with
  | none => decide +kernel
  | some x =>
    have : fCmp .eql (plR (some x)) 13830554455654793216 = false := (nr_facts (n := x.1) (by have := h.1; omega)).2.2.2.2
    rw [this]
    rfl
theorem pl_eq {q r : Pl} (hq : okPl q) (hr : okPl r) : (fCmp .eql (plR q) (plR r) && fCmp .eql (plM q) (plM r)) = decide (q = r) := by
  cases q with
  | none =>
    cases r with
    | none => decide +kernel
    | some y =>
      have : fCmp .eql (plR none) (plR (some y)) = false := neg_eq ⟨y.1, hr.1⟩
      rw [this]
      simp
  | some x =>
    cases r with
    | none =>
      have : fCmp .eql (plR (some x)) (plR none) = false := (nr_facts (n := x.1) (by have := hq.1; omega)).2.2.2.2
      rw [this]
      simp
    | some y =>
      have e1 : fCmp .eql (plR (some x)) (plR (some y)) = decide (x.1 = y.1) := nr_eq hq.1 hr.1
      have e2 : fCmp .eql (plM (some x)) (plM (some y)) = decide (x.2 = y.2) := nr_eq (by have := hq.2; omega) (by have := hr.2; omega)
      rw [e1, e2]
      obtain ⟨a, b⟩ := x
      obtain ⟨c, d⟩ := y
      simp only [Option.some.injEq, Prod.mk.injEq]
      by_cases h1 : a = c <;> by_cases h2 : b = d <;> simp [h1, h2]
theorem plV_one (l : List Pl) : ∀ z ∈ l.map plV, z.oneCell' = true := by
  intro z hz
  obtain ⟨q, _, rfl⟩ := List.mem_map.1 hz
  rfl

/-! ### axis -/
theorem within_spec (n m : Nat) (hn : n ≤ 24) (hm : m = 24 ∨ m = 16) (w : World) : axis_within.C (nr n) m w (Ret fun v w' => v = .bool (decide (n < m)) ∧ w' = w) := by
  apply axis_within.ok
  unfold axis_within.main
  obtain ⟨f1, f2, f3, f4, f5⟩ := nr_facts hn
  rw [f1, cond_pos rfl]
  have f6 : fCmp .lss (nr n) (FloatKind.f64.nearest (m : Int)) = decide (n < m) := by
    rcases hm with rfl | rfl
    · exact f2
    · exact f3
  rw [f6]
  refine cond_of (fun h => ?_) (fun h => ?_)
  · have hlt := of_decide_eq_true h
    rw [h]
    refine optP_of f4 (chkd_of (by rw [i64_min]; omega) (chkd_of (by rw [i64_max]; omega) (Ret.mk ⟨?_, rfl⟩)))
    have := nr_eq (a := n) (b := n) (by rcases hm with rfl | rfl <;> omega) (by rcases hm with rfl | rfl <;> omega)
    rw [decide_eq_true rfl] at this
    exact congrArg Value.bool this
  · rw [h]
    exact Ret.mk ⟨rfl, rfl⟩
theorem within_neg (m : Int) (w : World) : axis_within.C neg1 m w (Ret fun v w' => v = .bool false ∧ w' = w) := by
  apply axis_within.ok
  unfold axis_within.main
  rw [cond_neg (by decide +kernel)]
  exact Ret.mk ⟨rfl, rfl⟩
theorem Whole_spec (q : Pl) (h : okPl q) (w : World) : axis_Whole.C (plR q) (plM q) w (Ret fun v w' => v = .bool q.isSome ∧ w' = w) := by
  apply axis_Whole.ok
  unfold axis_Whole.main
  cases q with
  | none =>
    refine callP.use (within_neg 24 w) ?_
    rintro _ _ ⟨rfl, rfl⟩
    try dsimp only [dI_i64, dI_u8, dI_u16, dI_u32, dB_bool, dS_slice, dP_ptr, dT_tup, dA_agg, dStr_str, dF_f, dC_c, dM_m, optP_some, ga0, ga1, ga2, ga3, ga4, cond_true, cond_false, chk_true, Bool.not_true, Bool.not_false, Option.isNone_none, Option.isNone_some, List.toList_toArray]
    exact Ret.mk ⟨rfl, rfl⟩
  | some x =>
    refine callP.use (within_spec x.1 24 (by have := h.1; omega) (.inl rfl) w) ?_
    rintro _ _ ⟨rfl, rfl⟩
    try dsimp only [dI_i64, dI_u8, dI_u16, dI_u32, dB_bool, dS_slice, dP_ptr, dT_tup, dA_agg, dStr_str, dF_f, dC_c, dM_m, optP_some, ga0, ga1, ga2, ga3, ga4, cond_true, cond_false, chk_true, Bool.not_true, Bool.not_false, Option.isNone_none, Option.isNone_some, List.toList_toArray]
    rw [decide_eq_true h.1, cond_pos rfl]
    refine callP.use (within_spec x.2 16 (by have := h.2; omega) (.inr rfl) _) ?_
    rintro _ _ ⟨rfl, rfl⟩
    try dsimp only [dI_i64, dI_u8, dI_u16, dI_u32, dB_bool, dS_slice, dP_ptr, dT_tup, dA_agg, dStr_str, dF_f, dC_c, dM_m, optP_some, ga0, ga1, ga2, ga3, ga4, cond_true, cond_false, chk_true, Bool.not_true, Bool.not_false, Option.isNone_none, Option.isNone_some, List.toList_toArray]
    rw [decide_eq_true h.2]
    exact Ret.mk ⟨rfl, rfl⟩
def prt : Pl → List Int
  | none => [0, 0, 2]
  | some x => [x.1, x.2, 0]
theorem Parts_spec (q : Pl) (h : okPl q) (w : World) : axis_Parts.C (plR q) (plM q) w (Ret fun v w' => v = .tuple (Cel.v64 (prt q)).toArray ∧ w' = w) := by
  apply axis_Parts.ok
  unfold axis_Parts.main
  refine callP.use (Whole_spec q h w) ?_
  rintro _ _ ⟨rfl, rfl⟩
  try dsimp only [dI_i64, dI_u8, dI_u16, dI_u32, dB_bool, dS_slice, dP_ptr, dT_tup, dA_agg, dStr_str, dF_f, dC_c, dM_m, optP_some, ga0, ga1, ga2, ga3, ga4, cond_true, cond_false, chk_true, Bool.not_true, Bool.not_false, Option.isNone_none, Option.isNone_some, List.toList_toArray]
  cases q with
  | none =>
    rw [cond_pos (by rfl)]
    exact Ret.mk ⟨rfl, rfl⟩
  | some x =>
    have h1 := h.1
    have h2 := h.2
    rw [cond_neg (by rfl)]
    refine optP_of (nr_facts (n := x.1) (by omega)).2.2.2.1 (chkd_of (by rw [i64_min]; omega) (chkd_of (by rw [i64_max]; omega) ?_))
    refine optP_of (nr_facts (n := x.2) (by omega)).2.2.2.1 (chkd_of (by rw [i64_min]; omega) (chkd_of (by rw [i64_max]; omega) (Ret.mk ⟨rfl, rfl⟩)))
theorem width_spec (k : Int) (w : World) : axis_width.C k w (Ret fun v w' => v = .bool (decide (1 ≤ k) && decide (k ≤ 16)) ∧ w' = w) := by
  apply axis_width.ok
  unfold axis_width.main
  refine cond_of (fun h => ?_) (fun h => ?_)
  · have h : 1 ≤ k := of_decide_eq_true h
    exact Ret.mk ⟨by rw [decide_eq_true h]; rfl, rfl⟩
  · have h : ¬ 1 ≤ k := of_decide_eq_false h
    exact Ret.mk ⟨by rw [decide_eq_false h]; rfl, rfl⟩
/-- a place as a number, and the error -/
def flt (k : Int) : Pl → List Int
  | none => [0, 2]
  | some x => if (x.2 : Int) < k then [x.1 * k + x.2, 0] else [0, 5]
theorem flt_some (k : Int) (x : Nat × Nat) : flt k (some x) = if (x.2 : Int) < k then [x.1 * k + x.2, 0] else [0, 5] := rfl
theorem flat_le {a : Nat} {k : Int} (ha : a < 24) (hk : 1 ≤ k ∧ k ≤ 16) : 0 ≤ (a : Int) * k ∧ (a : Int) * k ≤ 368 := by
  have h1 : (a : Int) * k ≤ 23 * 16 := Int.mul_le_mul (by omega) hk.2 (by omega) (by omega)
  have h2 := Int.mul_nonneg (a := (a : Int)) (b := k) (by omega) (by omega)
  omega
theorem Flat_spec (q : Pl) (h : okPl q) (k : Int) (hk : 1 ≤ k ∧ k ≤ 16) (w : World) : axis_Flat.C (plR q) (plM q) k w (Ret fun v w' => v = .tuple (Cel.v64 (flt k q)).toArray ∧ w' = w) := by
  apply axis_Flat.ok
  unfold axis_Flat.main
  refine callP.use (Parts_spec q h w) ?_
  rintro _ _ ⟨rfl, rfl⟩
  cases q with
  | none =>
    have e : (Cel.v64 (prt none)).toArray = #[.int .i64 0, .int .i64 0, .int .i64 2] := rfl
    rw [e]
    try dsimp only [dI_i64, dI_u8, dI_u16, dI_u32, dB_bool, dS_slice, dP_ptr, dT_tup, dA_agg, dStr_str, dF_f, dC_c, dM_m, optP_some, ga0, ga1, ga2, ga3, ga4, cond_true, cond_false, chk_true, Bool.not_true, Bool.not_false, Option.isNone_none, Option.isNone_some, List.toList_toArray]
    refine callP.use (width_spec k _) ?_
    rintro _ _ ⟨rfl, rfl⟩
    rw [decide_eq_true hk.1, decide_eq_true hk.2]
    try dsimp only [dI_i64, dI_u8, dI_u16, dI_u32, dB_bool, dS_slice, dP_ptr, dT_tup, dA_agg, dStr_str, dF_f, dC_c, dM_m, optP_some, ga0, ga1, ga2, ga3, ga4, cond_true, cond_false, chk_true, Bool.not_true, Bool.not_false, Option.isNone_none, Option.isNone_some, List.toList_toArray]
    rw [cond_neg (by rfl), cond_pos (by decide)]
    exact Ret.mk ⟨rfl, rfl⟩
  | some x =>
    have e : (Cel.v64 (prt (some x))).toArray = #[.int .i64 x.1, .int .i64 x.2, .int .i64 0] := rfl
    rw [e]
    try dsimp only [dI_i64, dI_u8, dI_u16, dI_u32, dB_bool, dS_slice, dP_ptr, dT_tup, dA_agg, dStr_str, dF_f, dC_c, dM_m, optP_some, ga0, ga1, ga2, ga3, ga4, cond_true, cond_false, chk_true, Bool.not_true, Bool.not_false, Option.isNone_none, Option.isNone_some, List.toList_toArray]
    refine callP.use (width_spec k _) ?_
    rintro _ _ ⟨rfl, rfl⟩
    rw [decide_eq_true hk.1, decide_eq_true hk.2]
    try dsimp only [dI_i64, dI_u8, dI_u16, dI_u32, dB_bool, dS_slice, dP_ptr, dT_tup, dA_agg, dStr_str, dF_f, dC_c, dM_m, optP_some, ga0, ga1, ga2, ga3, ga4, cond_true, cond_false, chk_true, Bool.not_true, Bool.not_false, Option.isNone_none, Option.isNone_some, List.toList_toArray]
    have hm := flat_le h.1 hk
    have h2 := h.2
    rw [cond_neg (by rfl), cond_neg (by decide)]
    refine cond_of (fun h => ?_) (fun h => ?_)
    · have h : ¬ (x.2 : Int) < k := by have := of_decide_eq_true h; omega
      refine Ret.mk ⟨?_, rfl⟩
      rw [flt_some, if_neg h]
      rfl
    · have h : (x.2 : Int) < k := by have := of_decide_eq_false h; omega
      rw [w64 (x := (x.1 : Int) * k) (by omega) (by omega), w64 (by omega) (by omega)]
      refine Ret.mk ⟨?_, rfl⟩
      rw [flt_some, if_pos h]
      rfl

/-! ### plat -/
def may (s k : Int) : Bool := decide (6 ≤ s) && decide (s ≤ 24) && decide (2 ≤ k) && decide (k ≤ 16)
theorem may_iff {s k : Int} : may s k = true ↔ 6 ≤ s ∧ s ≤ 24 ∧ 2 ≤ k ∧ k ≤ 16 := by simp [may, and_assoc]
theorem may_false {s k : Int} (h : ¬(6 ≤ s ∧ s ≤ 24 ∧ 2 ≤ k ∧ k ≤ 16)) : may s k = false := by
  cases hm : may s k with
  | false => rfl
  | true => exact (h (may_iff.1 hm)).elim
theorem prod_le {s k : Int} (h : 6 ≤ s ∧ s ≤ 24 ∧ 2 ≤ k ∧ k ≤ 16) : 0 ≤ s * k ∧ s * k ≤ 384 := by
  have h1 : s * k ≤ 24 * 16 := Int.mul_le_mul h.2.1 h.2.2.2 (by omega) (by omega)
  have h2 := Int.mul_nonneg (a := s) (b := k) (by omega) (by omega)
  omega
def two (s k : Int) : List Value := [.int .i64 s, .int .i64 k]
theorem Check_all (s k : Int) (w : World) : plat_Check.C s k w (Ret fun v w' => v = .int .i64 (if may s k then 0 else 1) ∧ Ex w w') := by
  apply plat_Check.ok
  unfold plat_Check.main
  rintro b w1 rfl rfl
  have o := Owns.new (w := w) (two s k) ty_api_Plat
  have hx := Ex.alloc w (.cells (two s k).toArray ty_api_Plat)
  have e1 : w.alloc (.cells #[.int .i64 s, .int .i64 k] ty_api_Plat) = w.alloc (.cells (two s k).toArray ty_api_Plat) := rfl
  rw [e1]
  generalize w.alloc (.cells (two s k).toArray ty_api_Plat) = w1 at o hx ⊢
  refine ⟨s, o.at (by rfl), cond_of (fun h => ?_) (fun h => ?_)⟩
  · have := of_decide_eq_true h
    rw [may_false (by omega)]
    exact Ret.mk ⟨rfl, hx⟩
  have h1 := of_decide_eq_false h
  refine ⟨s, o.at (by rfl), cond_of (fun h => ?_) (fun h => ?_)⟩
  · have := of_decide_eq_true h
    rw [may_false (by omega)]
    exact Ret.mk ⟨rfl, hx⟩
  have h2 := of_decide_eq_false h
  refine ⟨k, o.at (by rfl), cond_of (fun h => ?_) (fun h => ?_)⟩
  · have := of_decide_eq_true h
    rw [may_false (by omega)]
    exact Ret.mk ⟨rfl, hx⟩
  have h3 := of_decide_eq_false h
  refine ⟨k, o.at (by rfl), cond_of (fun h => ?_) (fun h => ?_)⟩
  · have := of_decide_eq_true h
    rw [may_false (by omega)]
    exact Ret.mk ⟨rfl, hx⟩
  have h4 := of_decide_eq_false h
  rw [may_iff.2 (by omega)]
  exact Ret.mk ⟨rfl, hx⟩
theorem May_all (s k : Int) (w : World) : stopcockref06_May.C s k w (Ret fun v w' => v = .bool (may s k) ∧ Ex w w') := by
  apply stopcockref06_May.ok
  unfold stopcockref06_May.main
  rintro b w1 rfl rfl
  have o := Owns.new (w := w) (two s k) ty_api_Plat
  have hx := Ex.alloc w (.cells (two s k).toArray ty_api_Plat)
  have e1 : w.alloc (.cells #[.int .i64 s, .int .i64 k] ty_api_Plat) = w.alloc (.cells (two s k).toArray ty_api_Plat) := rfl
  rw [e1]
  generalize w.alloc (.cells (two s k).toArray ty_api_Plat) = w1 at o hx ⊢
  refine ⟨s, o.at (by rfl), cond_of (fun h => ?_) (fun h => ?_)⟩
  · have h1 := of_decide_eq_true h
    refine ⟨s, o.at (by rfl), cond_of (fun h => ?_) (fun h => ?_)⟩
    · have h2 := of_decide_eq_true h
      refine ⟨k, o.at (by rfl), cond_of (fun h => ?_) (fun h => ?_)⟩
      · have h3 := of_decide_eq_true h
        refine ⟨k, o.at (by rfl), Ret.mk ⟨?_, hx⟩⟩
        by_cases h4 : k ≤ 16
        · rw [decide_eq_true h4, may_iff.2 (by omega)]
        · rw [decide_eq_false h4, may_false (by omega)]
      · have := of_decide_eq_false h
        rw [may_false (by omega)]
        exact Ret.mk ⟨rfl, hx⟩
    · have := of_decide_eq_false h
      rw [may_false (by omega)]
      exact Ret.mk ⟨rfl, hx⟩
  · have := of_decide_eq_false h
    rw [may_false (by omega)]
    exact Ret.mk ⟨rfl, hx⟩
theorem Capacity_all (s k : Int) (hh : 6 ≤ s ∧ s ≤ 24 ∧ 2 ≤ k ∧ k ≤ 16) (w : World) : plat_Capacity.C s k w (Ret fun v w' => v = .tuple #[.int .i64 ((s - 4) * k), .int .i64 0] ∧ Ex w w') := by
  apply plat_Capacity.ok
  unfold plat_Capacity.main
  rintro b w1 rfl rfl
  have o := Owns.new (w := w) (two s k) ty_api_Plat
  have hx := Ex.alloc w (.cells (two s k).toArray ty_api_Plat)
  have e1 : w.alloc (.cells #[.int .i64 s, .int .i64 k] ty_api_Plat) = w.alloc (.cells (two s k).toArray ty_api_Plat) := rfl
  rw [e1]
  generalize w.alloc (.cells (two s k).toArray ty_api_Plat) = w1 at o hx ⊢
  refine ⟨(two s k).toArray, rfl, o.cells, ?_⟩
  refine callP.use (Check_all s k _) ?_
  rintro _ w2 ⟨rfl, h2⟩
  try dsimp only [dI_i64, dI_u8, dI_u16, dI_u32, dB_bool, dS_slice, dP_ptr, dT_tup, dA_agg, dStr_str, dF_f, dC_c, dM_m, optP_some, ga0, ga1, ga2, ga3, ga4, cond_true, cond_false, chk_true, Bool.not_true, Bool.not_false, Option.isNone_none, Option.isNone_some, List.toList_toArray]
  rw [may_iff.2 hh, cond_neg (by decide)]
  refine ⟨s, (o.ex h2).at (by rfl), k, (o.ex h2).at (by rfl), Ret.mk ⟨?_, hx.trans h2⟩⟩
  have hp := prod_le hh
  have e : (s - 4) * k = s * k - 4 * k := Int.sub_mul _ _ _
  rw [w64 (x := s - 2) (by omega) (by omega), w64 (x := s - 2 - 2) (by omega) (by omega), show s - 2 - 2 = s - 4 by omega, w64 (by omega) (by omega)]
theorem refCapacity_all (s k : Int) (hh : 6 ≤ s ∧ s ≤ 24 ∧ 2 ≤ k ∧ k ≤ 16) (w : World) : stopcockref06_Capacity.C s k w (Ret fun v w' => v = .int .i64 ((s - 4) * k) ∧ Ex w w') := by
  apply stopcockref06_Capacity.ok
  unfold stopcockref06_Capacity.main
  rintro b w1 rfl rfl
  have o := Owns.new (w := w) (two s k) ty_api_Plat
  have hx := Ex.alloc w (.cells (two s k).toArray ty_api_Plat)
  have e1 : w.alloc (.cells #[.int .i64 s, .int .i64 k] ty_api_Plat) = w.alloc (.cells (two s k).toArray ty_api_Plat) := rfl
  rw [e1]
  generalize w.alloc (.cells (two s k).toArray ty_api_Plat) = w1 at o hx ⊢
  refine ⟨s, o.at (by rfl), k, o.at (by rfl), Ret.mk ⟨?_, hx⟩⟩
  have hp := prod_le hh
  have e : (s - 4) * k = s * k - 4 * k := Int.sub_mul _ _ _
  rw [w64 (x := s - 4) (by omega) (by omega), w64 (by omega) (by omega)]
/-- does a place lie within a geometry? -/
def inPl (s k : Int) : Pl → Bool
  | none => false
  | some x => decide ((x.2 : Int) < k) && decide ((x.1 : Int) * k + x.2 < s * k)
theorem inPl_some (s k : Int) (x : Nat × Nat) : inPl s k (some x) = (decide ((x.2 : Int) < k) && decide ((x.1 : Int) * k + x.2 < s * k)) := rfl
theorem At_all (s k : Int) (hh : 6 ≤ s ∧ s ≤ 24 ∧ 2 ≤ k ∧ k ≤ 16) (q : Pl) (h : okPl q) (w : World) :
    plat_At.C s k (plR q) (plM q) w (Ret fun v w' => (∃ x e, v = .tuple #[.int .i64 x, .int .i64 e] ∧ (e != 0) = !(inPl s k q)) ∧ Ex w w') := by
  apply plat_At.ok
  unfold plat_At.main
  rintro b1 w1 rfl rfl
  have o := Owns.new (w := w) (two s k) ty_api_Plat
  have hx := Ex.alloc w (.cells (two s k).toArray ty_api_Plat)
  have e1 : w.alloc (.cells #[.int .i64 s, .int .i64 k] ty_api_Plat) = w.alloc (.cells (two s k).toArray ty_api_Plat) := rfl
  rw [e1]
  generalize w.alloc (.cells (two s k).toArray ty_api_Plat) = w1 at o hx ⊢
  refine ⟨(two s k).toArray, rfl, o.cells, ?_⟩
  refine callP.use (Check_all s k _) ?_
  rintro _ w2 ⟨rfl, h2⟩
  rw [may_iff.2 hh]
  try dsimp only [dI_i64, dI_u8, dI_u16, dI_u32, dB_bool, dS_slice, dP_ptr, dT_tup, dA_agg, dStr_str, dF_f, dC_c, dM_m, optP_some, ga0, ga1, ga2, ga3, ga4, cond_true, cond_false, chk_true, Bool.not_true, Bool.not_false, Option.isNone_none, Option.isNone_some, List.toList_toArray]
  rw [cond_neg (by decide)]
  refine ⟨k, (o.ex h2).at (by rfl), ?_⟩
  refine callP.use (Flat_spec q h k (by omega) w2) ?_
  rintro _ _ ⟨rfl, rfl⟩
  cases q with
  | none =>
    have e : (Cel.v64 (flt k none)).toArray = #[.int .i64 0, .int .i64 2] := rfl
    rw [e]
    try dsimp only [dI_i64, dI_u8, dI_u16, dI_u32, dB_bool, dS_slice, dP_ptr, dT_tup, dA_agg, dStr_str, dF_f, dC_c, dM_m, optP_some, ga0, ga1, ga2, ga3, ga4, cond_true, cond_false, chk_true, Bool.not_true, Bool.not_false, Option.isNone_none, Option.isNone_some, List.toList_toArray]
    rw [cond_pos (by decide)]
    exact Ret.mk ⟨⟨_, _, rfl, rfl⟩, hx.trans h2⟩
  | some x =>
    rw [flt_some, inPl_some]
    split
    · rename_i hlt
      have e : (Cel.v64 [(x.1 : Int) * k + x.2, 0]).toArray = #[.int .i64 ((x.1 : Int) * k + x.2), .int .i64 0] := rfl
      rw [e]
      try dsimp only [dI_i64, dI_u8, dI_u16, dI_u32, dB_bool, dS_slice, dP_ptr, dT_tup, dA_agg, dStr_str, dF_f, dC_c, dM_m, optP_some, ga0, ga1, ga2, ga3, ga4, cond_true, cond_false, chk_true, Bool.not_true, Bool.not_false, Option.isNone_none, Option.isNone_some, List.toList_toArray]
      rw [cond_neg (by decide)]
      have hp := prod_le hh
      have hm := flat_le (k := k) h.1 (by omega)
      refine ⟨s, (o.ex h2).at (by rfl), k, (o.ex h2).at (by rfl), ?_⟩
      rw [w64 (x := s * k) (by omega) (by omega)]
      refine cond_of (fun hc => ?_) (fun hc => ?_)
      · have hc := of_decide_eq_true hc
        exact Ret.mk ⟨⟨_, _, rfl, by rw [decide_eq_false (by omega : ¬ (x.1 : Int) * k + x.2 < s * k)]; simp⟩, hx.trans h2⟩
      · have hc := of_decide_eq_false hc
        exact Ret.mk ⟨⟨_, _, rfl, by rw [decide_eq_true hlt, decide_eq_true (by omega : (x.1 : Int) * k + x.2 < s * k)]; simp⟩, hx.trans h2⟩
    · rename_i hlt
      have e : (Cel.v64 [(0 : Int), 5]).toArray = #[.int .i64 0, .int .i64 5] := rfl
      rw [e]
      try dsimp only [dI_i64, dI_u8, dI_u16, dI_u32, dB_bool, dS_slice, dP_ptr, dT_tup, dA_agg, dStr_str, dF_f, dC_c, dM_m, optP_some, ga0, ga1, ga2, ga3, ga4, cond_true, cond_false, chk_true, Bool.not_true, Bool.not_false, Option.isNone_none, Option.isNone_some, List.toList_toArray]
      rw [cond_pos (by decide)]
      exact Ret.mk ⟨⟨_, _, rfl, by rw [decide_eq_false hlt]; simp⟩, hx.trans h2⟩

/-! ### The document's axis and plat -/
theorem part_spec (n m : Nat) (hn : n < 24) (hm : m ≤ 24) (w : World) : stopcockref01_part.C (nr n) m w (Ret fun v w' => v = .int .i64 (if n < m then (n : Int) else -1) ∧ w' = w) := by
  apply stopcockref01_part.ok
  unfold stopcockref01_part.main stopcockref01_part.l1
  refine ⟨fun t0 t1 t5 w' => t0 = nr n ∧ t1 = (m : Int) ∧ 0 ≤ t5 ∧ t5 ≤ n ∧ t5 ≤ m ∧ w = w', fun t0 t1 t5 w' => (m - t5).toNat, ⟨rfl, rfl, by omega, by omega, by omega, rfl⟩, ?_⟩
  rintro _ _ t5 _ ⟨rfl, rfl, h0, h1, h2, rfl⟩
  unfold stopcockref01_part.b1
  obtain ⟨j, rfl⟩ := Int.eq_ofNat_of_zero_le h0
  refine cond_of (fun h => ?_) (fun h => ?_)
  · have h := of_decide_eq_true h
    have e : fCmp .eql (nr n) (FloatKind.f64.nearest ((j : Nat) : Int)) = decide (n = j) := nr_eq hn (by omega)
    rw [e]
    refine cond_of (fun h => ?_) (fun h => ?_)
    · have h := of_decide_eq_true h
      subst h
      exact Ret.mk ⟨by rw [if_pos (by omega)], rfl⟩
    · have h := of_decide_eq_false h
      rw [w64 (by omega) (by omega)]
      exact ⟨⟨rfl, rfl, by omega, by omega, by omega, rfl⟩, by ((try dsimp only); omega)⟩
  · have h := of_decide_eq_false h
    exact Ret.mk ⟨by rw [if_neg (by omega)], rfl⟩
theorem part_neg (m : Nat) (hm : m ≤ 24) (w : World) : stopcockref01_part.C neg1 m w (Ret fun v w' => v = .int .i64 (-1) ∧ w' = w) := by
  apply stopcockref01_part.ok
  unfold stopcockref01_part.main stopcockref01_part.l1
  refine ⟨fun t0 t1 t5 w' => t0 = neg1 ∧ t1 = (m : Int) ∧ 0 ≤ t5 ∧ t5 ≤ m ∧ w = w', fun t0 t1 t5 w' => (m - t5).toNat, ⟨rfl, rfl, by omega, by omega, rfl⟩, ?_⟩
  rintro _ _ t5 _ ⟨rfl, rfl, h0, h2, rfl⟩
  unfold stopcockref01_part.b1
  obtain ⟨j, rfl⟩ := Int.eq_ofNat_of_zero_le h0
  refine cond_of (fun h => ?_) (fun h => ?_)
  · have h := of_decide_eq_true h
    have e : fCmp .eql neg1 (FloatKind.f64.nearest ((j : Nat) : Int)) = false := neg_eq ⟨j, by omega⟩
    rw [e, cond_neg rfl, w64 (by omega) (by omega)]
    exact ⟨⟨rfl, rfl, by omega, by omega, rfl⟩, by ((try dsimp only); omega)⟩
  · exact Ret.mk ⟨rfl, rfl⟩
theorem refParts_spec (q : Pl) (h : okPl q) (w : World) : stopcockref01_Parts.C (plR q) (plM q) w (Ret fun v w' => v = .tuple (Cel.v64 (prt q)).toArray ∧ w' = w) := by
  apply stopcockref01_Parts.ok
  unfold stopcockref01_Parts.main
  cases q with
  | none =>
    refine callP.use (part_neg 24 (by omega) w) ?_
    rintro _ _ ⟨rfl, rfl⟩
    try dsimp only [dI_i64, dI_u8, dI_u16, dI_u32, dB_bool, dS_slice, dP_ptr, dT_tup, dA_agg, dStr_str, dF_f, dC_c, dM_m, optP_some, ga0, ga1, ga2, ga3, ga4, cond_true, cond_false, chk_true, Bool.not_true, Bool.not_false, Option.isNone_none, Option.isNone_some, List.toList_toArray]
    have e0 : plM none = nr 0 := nr_zero.symm
    rw [e0]
    refine callP.use (part_spec 0 16 (by omega) (by omega) _) ?_
    rintro _ _ ⟨rfl, rfl⟩
    try dsimp only [dI_i64, dI_u8, dI_u16, dI_u32, dB_bool, dS_slice, dP_ptr, dT_tup, dA_agg, dStr_str, dF_f, dC_c, dM_m, optP_some, ga0, ga1, ga2, ga3, ga4, cond_true, cond_false, chk_true, Bool.not_true, Bool.not_false, Option.isNone_none, Option.isNone_some, List.toList_toArray]
    rw [condd_pos (by omega)]
    exact Ret.mk ⟨rfl, rfl⟩
  | some x =>
    refine callP.use (part_spec x.1 24 h.1 (by omega) w) ?_
    rintro _ _ ⟨rfl, rfl⟩
    try dsimp only [dI_i64, dI_u8, dI_u16, dI_u32, dB_bool, dS_slice, dP_ptr, dT_tup, dA_agg, dStr_str, dF_f, dC_c, dM_m, optP_some, ga0, ga1, ga2, ga3, ga4, cond_true, cond_false, chk_true, Bool.not_true, Bool.not_false, Option.isNone_none, Option.isNone_some, List.toList_toArray]
    refine callP.use (part_spec x.2 16 (by have := h.2; omega) (by omega) _) ?_
    rintro _ _ ⟨rfl, rfl⟩
    try dsimp only [dI_i64, dI_u8, dI_u16, dI_u32, dB_bool, dS_slice, dP_ptr, dT_tup, dA_agg, dStr_str, dF_f, dC_c, dM_m, optP_some, ga0, ga1, ga2, ga3, ga4, cond_true, cond_false, chk_true, Bool.not_true, Bool.not_false, Option.isNone_none, Option.isNone_some, List.toList_toArray]
    rw [if_pos h.1, if_pos h.2, condd_neg (by omega), condd_neg (by omega)]
    exact Ret.mk ⟨rfl, rfl⟩
theorem refWhole_spec (q : Pl) (h : okPl q) (w : World) : stopcockref01_Whole.C (plR q) (plM q) w (Ret fun v w' => v = .bool q.isSome ∧ w' = w) := by
  apply stopcockref01_Whole.ok
  unfold stopcockref01_Whole.main
  refine callP.use (refParts_spec q h w) ?_
  rintro _ _ ⟨rfl, rfl⟩
  cases q with
  | none =>
    have e : (Cel.v64 (prt none)).toArray = #[.int .i64 0, .int .i64 0, .int .i64 2] := rfl
    rw [e]
    try dsimp only [dI_i64, dI_u8, dI_u16, dI_u32, dB_bool, dS_slice, dP_ptr, dT_tup, dA_agg, dStr_str, dF_f, dC_c, dM_m, optP_some, ga0, ga1, ga2, ga3, ga4, cond_true, cond_false, chk_true, Bool.not_true, Bool.not_false, Option.isNone_none, Option.isNone_some, List.toList_toArray]
    exact Ret.mk ⟨rfl, rfl⟩
  | some x =>
    have e : (Cel.v64 (prt (some x))).toArray = #[.int .i64 x.1, .int .i64 x.2, .int .i64 0] := rfl
    rw [e]
    try dsimp only [dI_i64, dI_u8, dI_u16, dI_u32, dB_bool, dS_slice, dP_ptr, dT_tup, dA_agg, dStr_str, dF_f, dC_c, dM_m, optP_some, ga0, ga1, ga2, ga3, ga4, cond_true, cond_false, chk_true, Bool.not_true, Bool.not_false, Option.isNone_none, Option.isNone_some, List.toList_toArray]
    exact Ret.mk ⟨rfl, rfl⟩
theorem refFlat_spec (q : Pl) (h : okPl q) (k : Int) (hk : 1 ≤ k ∧ k ≤ 16) (w : World) : stopcockref01_Flat.C (plR q) (plM q) k w (Ret fun v w' => v = .tuple (Cel.v64 (flt k q)).toArray ∧ w' = w) := by
  apply stopcockref01_Flat.ok
  unfold stopcockref01_Flat.main
  rw [condd_neg (by omega), condd_neg (by omega)]
  refine callP.use (refParts_spec q h w) ?_
  rintro _ _ ⟨rfl, rfl⟩
  cases q with
  | none =>
    have e : (Cel.v64 (prt none)).toArray = #[.int .i64 0, .int .i64 0, .int .i64 2] := rfl
    rw [e]
    try dsimp only [dI_i64, dI_u8, dI_u16, dI_u32, dB_bool, dS_slice, dP_ptr, dT_tup, dA_agg, dStr_str, dF_f, dC_c, dM_m, optP_some, ga0, ga1, ga2, ga3, ga4, cond_true, cond_false, chk_true, Bool.not_true, Bool.not_false, Option.isNone_none, Option.isNone_some, List.toList_toArray]
    rw [cond_pos (by decide)]
    exact Ret.mk ⟨rfl, rfl⟩
  | some x =>
    have e : (Cel.v64 (prt (some x))).toArray = #[.int .i64 x.1, .int .i64 x.2, .int .i64 0] := rfl
    rw [e]
    try dsimp only [dI_i64, dI_u8, dI_u16, dI_u32, dB_bool, dS_slice, dP_ptr, dT_tup, dA_agg, dStr_str, dF_f, dC_c, dM_m, optP_some, ga0, ga1, ga2, ga3, ga4, cond_true, cond_false, chk_true, Bool.not_true, Bool.not_false, Option.isNone_none, Option.isNone_some, List.toList_toArray]
    have hm := flat_le h.1 hk
    have h2 := h.2
    rw [cond_neg (by decide)]
    refine cond_of (fun h => ?_) (fun h => ?_)
    · have h : ¬ (x.2 : Int) < k := by have := of_decide_eq_true h; omega
      refine Ret.mk ⟨?_, rfl⟩
      rw [flt_some, if_neg h]
      rfl
    · have h : (x.2 : Int) < k := by have := of_decide_eq_false h; omega
      rw [w64 (x := (x.1 : Int) * k) (by omega) (by omega), w64 (by omega) (by omega)]
      refine Ret.mk ⟨?_, rfl⟩
      rw [flt_some, if_pos h]
      rfl
theorem refAt_all (s k : Int) (hh : 6 ≤ s ∧ s ≤ 24 ∧ 2 ≤ k ∧ k ≤ 16) (q : Pl) (h : okPl q) (w : World) :
    stopcockref06_At.C s k (plR q) (plM q) w (Ret fun v w' => (∃ x e, v = .tuple #[.int .i64 x, .int .i64 e] ∧ (e != 0) = !(inPl s k q)) ∧ Ex w w') := by
  apply stopcockref06_At.ok
  unfold stopcockref06_At.main
  rintro b1 w1 rfl rfl
  have o := Owns.new (w := w) (two s k) ty_api_Plat
  have hx := Ex.alloc w (.cells (two s k).toArray ty_api_Plat)
  have e1 : w.alloc (.cells #[.int .i64 s, .int .i64 k] ty_api_Plat) = w.alloc (.cells (two s k).toArray ty_api_Plat) := rfl
  rw [e1]
  generalize w.alloc (.cells (two s k).toArray ty_api_Plat) = w1 at o hx ⊢
  refine ⟨(two s k).toArray, rfl, o.cells, ?_⟩
  refine callP.use (May_all s k _) ?_
  rintro _ w2 ⟨rfl, h2⟩
  rw [may_iff.2 hh]
  try dsimp only [dI_i64, dI_u8, dI_u16, dI_u32, dB_bool, dS_slice, dP_ptr, dT_tup, dA_agg, dStr_str, dF_f, dC_c, dM_m, optP_some, ga0, ga1, ga2, ga3, ga4, cond_true, cond_false, chk_true, Bool.not_true, Bool.not_false, Option.isNone_none, Option.isNone_some, List.toList_toArray]
  rw [cond_neg (by rfl)]
  refine ⟨k, (o.ex h2).at (by rfl), ?_⟩
  refine callP.use (refFlat_spec q h k (by omega) w2) ?_
  rintro _ _ ⟨rfl, rfl⟩
  cases q with
  | none =>
    have e : (Cel.v64 (flt k none)).toArray = #[.int .i64 0, .int .i64 2] := rfl
    rw [e]
    try dsimp only [dI_i64, dI_u8, dI_u16, dI_u32, dB_bool, dS_slice, dP_ptr, dT_tup, dA_agg, dStr_str, dF_f, dC_c, dM_m, optP_some, ga0, ga1, ga2, ga3, ga4, cond_true, cond_false, chk_true, Bool.not_true, Bool.not_false, Option.isNone_none, Option.isNone_some, List.toList_toArray]
    rw [cond_pos (by decide)]
    exact Ret.mk ⟨⟨_, _, rfl, rfl⟩, hx.trans h2⟩
  | some x =>
    rw [flt_some, inPl_some]
    split
    · rename_i hlt
      have e : (Cel.v64 [(x.1 : Int) * k + x.2, 0]).toArray = #[.int .i64 ((x.1 : Int) * k + x.2), .int .i64 0] := rfl
      rw [e]
      try dsimp only [dI_i64, dI_u8, dI_u16, dI_u32, dB_bool, dS_slice, dP_ptr, dT_tup, dA_agg, dStr_str, dF_f, dC_c, dM_m, optP_some, ga0, ga1, ga2, ga3, ga4, cond_true, cond_false, chk_true, Bool.not_true, Bool.not_false, Option.isNone_none, Option.isNone_some, List.toList_toArray]
      rw [cond_neg (by decide)]
      have hp := prod_le hh
      have hm := flat_le (k := k) h.1 (by omega)
      refine ⟨s, (o.ex h2).at (by rfl), k, (o.ex h2).at (by rfl), ?_⟩
      rw [w64 (x := s * k) (by omega) (by omega)]
      refine cond_of (fun hc => ?_) (fun hc => ?_)
      · have hc := of_decide_eq_true hc
        exact Ret.mk ⟨⟨_, _, rfl, by rw [decide_eq_false (by omega : ¬ (x.1 : Int) * k + x.2 < s * k)]; simp⟩, hx.trans h2⟩
      · have hc := of_decide_eq_false hc
        exact Ret.mk ⟨⟨_, _, rfl, by rw [decide_eq_true hlt, decide_eq_true (by omega : (x.1 : Int) * k + x.2 < s * k)]; simp⟩, hx.trans h2⟩
    · rename_i hlt
      have e : (Cel.v64 [(0 : Int), 5]).toArray = #[.int .i64 0, .int .i64 5] := rfl
      rw [e]
      try dsimp only [dI_i64, dI_u8, dI_u16, dI_u32, dB_bool, dS_slice, dP_ptr, dT_tup, dA_agg, dStr_str, dF_f, dC_c, dM_m, optP_some, ga0, ga1, ga2, ga3, ga4, cond_true, cond_false, chk_true, Bool.not_true, Bool.not_false, Option.isNone_none, Option.isNone_some, List.toList_toArray]
      rw [cond_pos (by decide)]
      exact Ret.mk ⟨⟨_, _, rfl, by rw [decide_eq_false hlt]; simp⟩, hx.trans h2⟩

/-! ### Lists of places -/
/-- a place of a list that lies there -/
theorem pl_get {w : World} {p : Option Addr} {l : List Pl} (hc : CellsO w p (l.map plV)) {j : Nat} (hj : j < l.length) : ∃ a, p = some a ∧ w.cell? (a.add j) = some (.complex .f64 (plR l[j]) (plM l[j])) :=
  hc.many (by rw [List.getElem?_map, List.getElem?_eq_getElem hj]; rfl)
theorem any_snoc {α : Type} (f : α → Bool) (l : List α) {j : Nat} (hj : j < l.length) (h : (l.take j).any f = false) : (l.take (j + 1)).any f = f l[j] := by
  rw [List.take_succ_eq_append_getElem hj, List.any_append, h]
  simp
theorem any_true {α : Type} (f : α → Bool) (l : List α) {j : Nat} (hj : j < l.length) (h : f l[j] = true) : l.any f = true := List.any_eq_true.2 ⟨_, List.getElem_mem hj, h⟩
theorem has75_all (p : Option Addr) (n c : Nat) (l : List Pl) (w : World) (hc : CellsO w p (l.map plV)) (hn : l.length = n) (hl : n ≤ 1000000) (ho : ∀ q ∈ l, okPl q) :
    slices_ContainsFunc_complex128_complex128.C p n c (.func (.func 91) #[] #[]) w (Ret fun v w' => v = .bool false ∧ w' = w) := by
  apply slices_ContainsFunc_complex128_complex128.ok
  unfold slices_ContainsFunc_complex128_complex128.main
  have h : slices_IndexFunc_complex128_complex128_f91.C p n c w (Ret fun v w' => v = .int .i64 (-1) ∧ w' = w) := by
    apply slices_IndexFunc_complex128_complex128_f91.ok
    unfold slices_IndexFunc_complex128_complex128_f91.main slices_IndexFunc_complex128_complex128_f91.l1
    refine ⟨fun t0p t0n t0c t7 t8 w' => p = t0p ∧ n = t0n ∧ c = t0c ∧ (n : Int) = t7 ∧ 0 ≤ t8 ∧ t8 ≤ n ∧ w = w', fun _ _ _ _ t8 _ => (n - t8).toNat, ⟨rfl, rfl, rfl, rfl, by omega, by omega, rfl⟩, ?_⟩
    rintro _ _ _ _ t8 _ ⟨rfl, rfl, rfl, rfl, h0, h1, rfl⟩
    unfold slices_IndexFunc_complex128_complex128_f91.b1
    refine cond_of (fun h => ?_) (fun h => Ret.mk ⟨rfl, rfl⟩)
    have hlt := of_decide_eq_true h
    obtain ⟨j, rfl⟩ := Int.eq_ofNat_of_zero_le h0
    have hj : j < l.length := by omega
    obtain ⟨a, rfl, r⟩ := pl_get hc hj
    refine chk_of (decide_eq_true h0) (chk_of (decide_eq_true hlt) ?_)
    try dsimp only [dI_i64, dI_u8, dI_u16, dI_u32, dB_bool, dS_slice, dP_ptr, dT_tup, dA_agg, dStr_str, dF_f, dC_c, dM_m, optP_some, ga0, ga1, ga2, ga3, ga4, cond_true, cond_false, chk_true, Bool.not_true, Bool.not_false, Option.isNone_none, Option.isNone_some, List.toList_toArray]
    rw [Int.toNat_natCast, Nat.mul_one]
    refine ⟨_, _, r, ?_⟩
    have hf : delta_Sound_1.C (plR l[j]) (plM l[j]) w (Ret fun v w' => v = .bool false ∧ w' = w) := by
      apply delta_Sound_1.ok
      unfold delta_Sound_1.main
      have hk := ho _ (List.getElem_mem hj)
      rw [empty_eq hk]
      cases hq : l[j] with
      | none =>
        rw [cond_neg (by rfl)]
        exact Ret.mk ⟨rfl, rfl⟩
      | some x =>
        rw [hq] at hk
        rw [cond_pos (by rfl)]
        refine callP.use (Whole_spec (some x) hk w) ?_
        rintro _ _ ⟨rfl, rfl⟩
        try dsimp only [dI_i64, dI_u8, dI_u16, dI_u32, dB_bool, dS_slice, dP_ptr, dT_tup, dA_agg, dStr_str, dF_f, dC_c, dM_m, optP_some, ga0, ga1, ga2, ga3, ga4, cond_true, cond_false, chk_true, Bool.not_true, Bool.not_false, Option.isNone_none, Option.isNone_some, List.toList_toArray]
        exact Ret.mk ⟨rfl, rfl⟩
    refine callP.use hf ?_
    rintro _ _ ⟨rfl, rfl⟩
    try dsimp only [dI_i64, dI_u8, dI_u16, dI_u32, dB_bool, dS_slice, dP_ptr, dT_tup, dA_agg, dStr_str, dF_f, dC_c, dM_m, optP_some, ga0, ga1, ga2, ga3, ga4, cond_true, cond_false, chk_true, Bool.not_true, Bool.not_false, Option.isNone_none, Option.isNone_some, List.toList_toArray]
    rw [w64 (by omega) (by omega)]
    exact ⟨⟨rfl, rfl, rfl, rfl, by omega, by omega, rfl⟩, by ((try dsimp only); omega)⟩
  refine callP.use h ?_
  rintro _ _ ⟨rfl, rfl⟩
  try dsimp only [dI_i64, dI_u8, dI_u16, dI_u32, dB_bool, dS_slice, dP_ptr, dT_tup, dA_agg, dStr_str, dF_f, dC_c, dM_m, optP_some, ga0, ga1, ga2, ga3, ga4, cond_true, cond_false, chk_true, Bool.not_true, Bool.not_false, Option.isNone_none, Option.isNone_some, List.toList_toArray]
  exact Ret.mk ⟨rfl, rfl⟩
/-- is it a place that lies without a geometry? -/
def outPl (s k : Int) (q : Pl) : Bool := q.isSome && !(inPl s k q)
theorem has63_all (p : Option Addr) (n c : Nat) (l : List Pl) (w : World) (hc : CellsO w p (l.map plV)) (hn : l.length = n) (hl : n ≤ 1000000) (ho : ∀ q ∈ l, okPl q) (s k : Int) (hh : 6 ≤ s ∧ s ≤ 24 ∧ 2 ≤ k ∧ k ≤ 16) {B q0 : Nat} (o : Owns w B ty_api_Plat 2 (some ⟨q0, 0, none⟩) 1 1 (two s k)) :
    slices_ContainsFunc_complex128_complex128.C p n c (.func (.func 85) #[] #[.pointer (some ⟨q0, 0, none⟩)]) w (Ret fun v w' => v = .bool (l.any (outPl s k)) ∧ Ex w w') := by
  apply slices_ContainsFunc_complex128_complex128.ok
  unfold slices_ContainsFunc_complex128_complex128.main
  have h : slices_IndexFunc_complex128_complex128_f85.C p n c q0 w (Ret fun v w' => (∃ x, v = .int .i64 x ∧ decide (x ≥ 0) = l.any (outPl s k)) ∧ Ex w w') := by
    apply slices_IndexFunc_complex128_complex128_f85.ok
    unfold slices_IndexFunc_complex128_complex128_f85.main slices_IndexFunc_complex128_complex128_f85.l1
    refine ⟨fun t0p t0n t0c t1 t7 t8 w' => p = t0p ∧ n = t0n ∧ c = t0c ∧ q0 = t1 ∧ (n : Int) = t7 ∧ 0 ≤ t8 ∧ t8 ≤ n ∧ (l.take t8.toNat).any (outPl s k) = false ∧ Ex w w', fun _ _ _ _ _ t8 _ => (n - t8).toNat, ⟨rfl, rfl, rfl, rfl, rfl, by omega, by omega, rfl, Ex.refl w⟩, ?_⟩
    rintro _ _ _ _ _ t8 w' ⟨rfl, rfl, rfl, rfl, rfl, h0, h1, hp, hx⟩
    unfold slices_IndexFunc_complex128_complex128_f85.b1
    obtain ⟨j, rfl⟩ := Int.eq_ofNat_of_zero_le h0
    rw [Int.toNat_natCast] at hp
    refine cond_of (fun h => ?_) (fun h => ?_)
    · have hlt := of_decide_eq_true h
      have hj : j < l.length := by omega
      obtain ⟨a, rfl, r⟩ := pl_get (hc.ex hx) hj
      refine chk_of (decide_eq_true h0) (chk_of (decide_eq_true hlt) ?_)
      try dsimp only [dI_i64, dI_u8, dI_u16, dI_u32, dB_bool, dS_slice, dP_ptr, dT_tup, dA_agg, dStr_str, dF_f, dC_c, dM_m, optP_some, ga0, ga1, ga2, ga3, ga4, cond_true, cond_false, chk_true, Bool.not_true, Bool.not_false, Option.isNone_none, Option.isNone_some, List.toList_toArray]
      rw [Int.toNat_natCast, Nat.mul_one]
      refine ⟨_, _, r, ?_⟩
      have hf : owner_Within_1.C (plR l[j]) (plM l[j]) q0 w' (Ret fun v w2 => v = .bool (outPl s k l[j]) ∧ Ex w' w2) := by
        apply owner_Within_1.ok
        unfold owner_Within_1.main
        have hk := ho _ (List.getElem_mem hj)
        refine ⟨(two s k).toArray, rfl, (o.ex hx).cells, ?_⟩
        refine callP.use (At_all s k hh l[j] hk w') ?_
        rintro _ w2 ⟨⟨x, e, rfl, he⟩, x2⟩
        try dsimp only [dI_i64, dI_u8, dI_u16, dI_u32, dB_bool, dS_slice, dP_ptr, dT_tup, dA_agg, dStr_str, dF_f, dC_c, dM_m, optP_some, ga0, ga1, ga2, ga3, ga4, cond_true, cond_false, chk_true, Bool.not_true, Bool.not_false, Option.isNone_none, Option.isNone_some, List.toList_toArray]
        rw [empty_eq hk]
        unfold outPl
        cases hq : l[j] with
        | none =>
          rw [cond_neg (by rfl)]
          exact Ret.mk ⟨rfl, x2⟩
        | some y =>
          rw [hq] at he
          rw [cond_pos (by rfl), he]
          exact Ret.mk ⟨rfl, x2⟩
      refine callP.use hf ?_
      rintro _ w2 ⟨rfl, x2⟩
      try dsimp only [dI_i64, dI_u8, dI_u16, dI_u32, dB_bool, dS_slice, dP_ptr, dT_tup, dA_agg, dStr_str, dF_f, dC_c, dM_m, optP_some, ga0, ga1, ga2, ga3, ga4, cond_true, cond_false, chk_true, Bool.not_true, Bool.not_false, Option.isNone_none, Option.isNone_some, List.toList_toArray]
      refine cond_of (fun h => ?_) (fun h => ?_)
      · exact Ret.mk ⟨⟨_, rfl, by rw [any_true _ l hj h]; exact decide_eq_true h0⟩, hx.trans x2⟩
      · rw [w64 (by omega) (by omega)]
        refine ⟨⟨rfl, rfl, rfl, rfl, rfl, by omega, by omega, ?_, hx.trans x2⟩, by ((try dsimp only); omega)⟩
        have : ((j : Int) + 1).toNat = j + 1 := by omega
        rw [this, any_snoc _ l hj hp]
        exact h
    · have h := of_decide_eq_false h
      have : j = l.length := by omega
      subst this
      rw [List.take_length] at hp
      exact Ret.mk ⟨⟨_, rfl, by rw [hp]; rfl⟩, hx⟩
  refine callP.use h ?_
  rintro _ w1 ⟨⟨x, rfl, hx⟩, x1⟩
  try dsimp only [dI_i64, dI_u8, dI_u16, dI_u32, dB_bool, dS_slice, dP_ptr, dT_tup, dA_agg, dStr_str, dF_f, dC_c, dM_m, optP_some, ga0, ga1, ga2, ga3, ga4, cond_true, cond_false, chk_true, Bool.not_true, Bool.not_false, Option.isNone_none, Option.isNone_some, List.toList_toArray]
  rw [hx]
  exact Ret.mk ⟨rfl, x1⟩
end Go.Proofs.Ythgmebhkbbehmaa.G
