/-
  New, and the simplest facts; the plain Strand of the law's other program; the laws StrandNone, StrandPlays: the walks.
-/
import Derived.Test.YthopiffhkldnhaaStrandB
namespace Go.Proofs.Ythopiffhkldnhaa.G
open Go.Dec Go.RowKit
set_option linter.unusedVariables false
set_option linter.unusedSimpArgs false

/-! ### Rows that stay -/
def CellsK (w : World) (D : Nat → Prop) (p : Option Addr) (xs : List Value) : Prop := ∀ w', Kp w w' D → CellsO w' p xs
theorem CellsK.of_ex {w0 w : World} {D : Nat → Prop} {p : Option Addr} {xs : List Value} (h : CellsO w0 p xs) (hx : Ex w0 w) (hD : ∀ i, D i → w0.heap.size ≤ i) : CellsK w D p xs := fun w' k => h.ex (hx.then k hD)
theorem pair_one {a b : Int} : ∀ y ∈ [Value.int .i64 a, .int .i64 b], y.oneCell' = true := by
  intro y hy
  simp only [List.mem_cons, List.not_mem_nil, or_false] at hy
  rcases hy with rfl | rfl <;> rfl
theorem Own.pair {w : World} {B b : Nat} {e : TypeId} {xs : List Value} (h : Own w B e 2 (some ⟨b, 0, none⟩) 1 1 xs) : CellsAt w (⟨b, 0, none⟩ : Addr) xs := h.cells

theorem Check_spec (a b : Int) (w : World) : plat_Check.C a b w (Ret fun v w' => v = .int .i64 (if may a b then 0 else 1) ∧ Ex w w') := by
  apply plat_Check.ok
  unfold plat_Check.main
  rintro b1 w1 rfl rfl
  have o1 := Own.new (w := w) [.int .i64 a, .int .i64 b] 23
  have x1 := Ex.alloc w (.cells #[.int .i64 a, .int .i64 b] 23)
  have bad : may a b = false → Ret (fun v w' => v = .int .i64 (if may a b then 0 else 1) ∧ Ex w w') (.returned (.int .i64 1)) (w.alloc (.cells #[.int .i64 a, .int .i64 b] 23)) := fun h => Ret.mk ⟨by rw [h]; rfl, x1⟩
  refine ⟨_, o1.at (j := 0) rfl, cond_of (fun h => bad ?_) (fun h => ⟨_, o1.at (j := 0) rfl, cond_of (fun h2 => bad ?_) (fun h2 => ⟨_, o1.at (j := 1) rfl, cond_of (fun h3 => bad ?_) (fun h3 => ⟨_, o1.at (j := 1) rfl, cond_of (fun h4 => bad ?_) (fun h4 => ?_)⟩)⟩)⟩)⟩
  · have := of_decide_eq_true h; simp [may]; omega
  · have := of_decide_eq_true h2; simp [may]; omega
  · have := of_decide_eq_true h3; simp [may]; omega
  · have := of_decide_eq_true h4; simp [may]; omega
  · have h := of_decide_eq_false h; have h2 := of_decide_eq_false h2; have h3 := of_decide_eq_false h3; have h4 := of_decide_eq_false h4
    have hm : may a b = true := by simp [may]; omega
    exact Ret.mk ⟨by rw [hm]; rfl, x1⟩
theorem May_spec (a b : Int) (w : World) : stopcockref06_May.C a b w (Ret fun v w' => v = .bool (may a b) ∧ Ex w w') := by
  apply stopcockref06_May.ok
  unfold stopcockref06_May.main
  rintro b1 w1 rfl rfl
  have o1 := Own.new (w := w) [.int .i64 a, .int .i64 b] 23
  have x1 := Ex.alloc w (.cells #[.int .i64 a, .int .i64 b] 23)
  unfold may
  refine ⟨_, o1.at (j := 0) rfl, cond_of (fun h => ⟨_, o1.at (j := 0) rfl, cond_of (fun h2 => ⟨_, o1.at (j := 1) rfl, cond_of (fun h3 => ⟨_, o1.at (j := 1) rfl, Ret.mk ⟨?_, x1⟩⟩) (fun h3 => Ret.mk ⟨?_, x1⟩)⟩) (fun h2 => Ret.mk ⟨?_, x1⟩)⟩) (fun h => Ret.mk ⟨?_, x1⟩)⟩
  · rw [show decide (6 ≤ a) = true from h, h2, show decide (2 ≤ b) = true from h3]; rfl
  · rw [show decide (2 ≤ b) = false from h3]; simp
  · rw [h2]; simp
  · rw [show decide (6 ≤ a) = false from h]; rfl

/-! ### New -/
theorem freeAll_cons (s : St) (k : Int) (r : List Int) : freeAll s (k :: r) = if (freed s k).2 = 0 then freeAll (freed s k).1 r else none := rfl
theorem New_loop {B b2 : Nat} {w0 : World} {p : Option Addr} {n c : Nat} {xs : List Int} (hl : CellsO w0 p (i64s xs)) (hn : xs.length = n) (hb : n ≤ 100000000000000000) {s0 : St} (hg0 : Good s0) {w : World} {D0 : Nat → Prop} (X0 : Ex w0 w) (hB : w0.heap.size ≤ B) (hBw : B ≤ w.heap.size) (h0 : SIs w B b2 s0 D0) {S : Value → World → Prop}
    (hbad : ∀ w', freeAll s0 xs = none → Ex w0 w' → S (.tuple #[.pointer none, .int .i64 1]) w') (hok : ∀ w' s D, freeAll s0 xs = some s → Good s → SIs w' B b2 s D → Ex w0 w' → S (.tuple #[.pointer (some ⟨b2, 0, none⟩), .int .i64 0]) w') :
    strand_New.l1 b2 p n c (n : Int) 0 w (Ret S) := by
  refine ⟨fun t7 q m k t20 t21 w' => t7 = b2 ∧ p = q ∧ n = m ∧ c = k ∧ t20 = (n : Int) ∧ 0 ≤ t21 ∧ t21 ≤ (n : Int) ∧ Ex w0 w' ∧ B ≤ w'.heap.size ∧ ∃ s D, Good s ∧ SIs w' B b2 s D ∧ freeAll s (xs.drop t21.toNat) = freeAll s0 xs, fun t7 q m k t20 t21 w' => ((n : Int) - t21).toNat, ?_, ?_⟩
  · exact ⟨rfl, rfl, rfl, rfl, rfl, by omega, by omega, X0, hBw, s0, D0, hg0, h0, rfl⟩
  clear h0 X0 hBw
  rintro _ _ _ _ _ t w1 ⟨rfl, rfl, rfl, rfl, rfl, ht0, ht1, X1, hB1, s, D, hg, h, hall⟩
  unfold strand_New.b1
  refine cond_of (fun hc => ?_) (fun hc => ?_)
  · have hc := of_decide_eq_true hc
    obtain ⟨x, hx, _, hdrop⟩ := getE (l := xs) (i := t.toNat) (by omega)
    obtain ⟨a, rfl, hca⟩ := (hl.ex X1).many (j := t.toNat) (i64s_at hx)
    rw [← Nat.mul_one t.toNat] at hca
    refine chkd_of ht0 (chkd_of hc ⟨x, hca, ?_⟩)
    rw [hdrop] at hall
    rw [freeAll_cons] at hall
    refine callP.use (Free_spec h hg hB1 x) ?_
    rintro _ w2 ⟨rfl, D2, h2, k2, hD2⟩
    try dsimp only [dI_i64, dI_u8, dI_u16, dI_u32, dB_bool, dS_slice, dP_ptr, dT_tup, dA_agg, dStr_str, dF_f, dC_c, dM_m, optP_some, ga0, ga1, ga2, ga3, ga4, cond_true, cond_false, chk_true, Bool.not_true, Bool.not_false, Option.isNone_none, Option.isNone_some, List.toList_toArray]
    have X2 : Ex w0 w2 := X1.then k2 fun i hi => Nat.le_trans hB (h.typed hi).2.1
    refine cond_of (fun he => ?_) (fun he => ?_)
    · have he : ¬ (freed s x).2 = 0 := by simpa using he
      rw [if_neg he] at hall
      exact Ret.mk (hbad w2 hall.symm X2)
    · have he : (freed s x).2 = 0 := by simpa using he
      rw [if_pos he] at hall
      rw [w64 (by omega) (by omega)]
      refine ⟨⟨rfl, rfl, rfl, rfl, rfl, by omega, by omega, X2, Nat.le_trans hB1 k2.size, _, D2, freed_good hg x, h2, ?_⟩, by ((try dsimp only); omega)⟩
      rw [show (t + 1).toNat = t.toNat + 1 by omega]
      exact hall
  · have hc := of_decide_eq_false hc
    rw [List.drop_eq_nil_of_le (by omega)] at hall
    exact Ret.mk (hok w1 s D hall.symm hg h X1)
theorem New_spec (a b : Int) {p : Option Addr} {n c : Nat} {xs : List Int} (w : World) (hl : CellsO w p (i64s xs)) (hn : xs.length = n) (hb : n ≤ 100000000000000000) :
    strand_New.C a b p n c w (Ret fun v w' => Ex w w' ∧ match begun a b xs with | none => v = .tuple #[.pointer none, .int .i64 1] | some s => ∃ ps, v = .tuple #[.pointer (some ⟨ps, 0, none⟩), .int .i64 0] ∧ Good s ∧ ∃ D, SIs w' w.heap.size ps s D) := by
  apply strand_New.ok
  unfold strand_New.main
  rintro b1 w1 rfl rfl
  have o1 := Own.new (w := w) [.int .i64 a, .int .i64 b] 23
  have x1 := Ex.alloc w (.cells #[.int .i64 a, .int .i64 b] 23)
  generalize w.alloc (.cells #[.int .i64 a, .int .i64 b] 23) = w1 at o1 x1 ⊢
  refine ⟨#[.int .i64 a, .int .i64 b], rfl, o1.cells, ?_⟩
  refine callP.use (Check_spec a b w1) ?_
  rintro _ w2 ⟨rfl, x2⟩
  try dsimp only [dI_i64, dI_u8, dI_u16, dI_u32, dB_bool, dS_slice, dP_ptr, dT_tup, dA_agg, dStr_str, dF_f, dC_c, dM_m, optP_some, ga0, ga1, ga2, ga3, ga4, cond_true, cond_false, chk_true, Bool.not_true, Bool.not_false, Option.isNone_none, Option.isNone_some, List.toList_toArray]
  have x12 := x1.trans x2
  unfold begun
  cases hm : may a b with
  | false =>
    simp only [Bool.false_eq_true, if_false]
    rw [cond_pos (by decide)]
    exact Ret.mk ⟨x12, rfl⟩
  | true =>
    simp only [if_true]
    rw [cond_neg (by decide)]
    refine ⟨#[.int .i64 a, .int .i64 b], rfl, (o1.ex x2).cells, ?_⟩
    have hfill : Instr.fill (fun i => [(0, 2), (2, 1), (3, 1), (4, 1)].toArray[i]?) #[(Value.int .i64 0), (Value.int .i64 0), (Value.slice none 0 0), (Value.int .i64 0), (Value.int .i64 0)] [(0, (Value.agg #[.int .i64 a, .int .i64 b])), (2, (Value.int .i64 (-1)))] = some #[.int .i64 a, .int .i64 b, .slice none 0 0, .int .i64 (-1), .int .i64 0] := by rfl
    refine optP_of hfill ?_
    rintro b2 w4 rfl rfl
    have o4 := Own.new (w := w2) [.int .i64 a, .int .i64 b, .slice none 0 0, .int .i64 (-1), .int .i64 0] 57
    have x4 := Ex.alloc w2 (.cells #[.int .i64 a, .int .i64 b, .slice none 0 0, .int .i64 (-1), .int .i64 0] 57)
    have hs : SIs (w2.alloc (.cells #[.int .i64 a, .int .i64 b, .slice none 0 0, .int .i64 (-1), .int .i64 0] 57)) w.heap.size w2.heap.size (newSt a b) (SIts w2.heap.size none) := ⟨none, 0, ⟨o4.lower x12.size, Own.nil _ _ _ _⟩, fun i => Iff.rfl⟩
    generalize w2.alloc (.cells #[.int .i64 a, .int .i64 b, .slice none 0 0, .int .i64 (-1), .int .i64 0] 57) = w4 at hs x4 ⊢
    have X4 := x12.trans x4
    refine New_loop hl hn hb (newSt_good hm) X4 (Nat.le_refl _) X4.size hs (fun w' hf X => ?_) (fun w' s D hf hg h X => ?_)
    · refine ⟨X, ?_⟩
      rw [hf]
    · refine ⟨X, ?_⟩
      rw [hf]
      exact ⟨_, rfl, hg, D, h⟩
theorem awake_spec (w : World) : stopcocklaw16_awake.C w (Ret fun v w' => v = .bool true ∧ Ex w w') := by
  apply stopcocklaw16_awake.ok
  unfold stopcocklaw16_awake.main
  rintro b1 w1 rfl rfl
  have c1 : CellsO (w.alloc (.cells #[.int .i64 4, .int .i64 1] 3)) (some ⟨w.heap.size, 0, none⟩) (i64s [4, 1]) := CellsO.alloc (i64s [4, 1]) 3
  have x1 := Ex.alloc w (.cells #[.int .i64 4, .int .i64 1] 3)
  generalize w.alloc (.cells #[.int .i64 4, .int .i64 1] 3) = w1 at c1 x1 ⊢
  refine callP.use (New_spec 6 2 (c := 2) w1 c1 rfl (by omega)) ?_
  rw [show begun 6 2 [4, 1] = some ⟨6, 2, [1, 4], -1, 0⟩ by rfl]
  rintro _ w2 ⟨x2, ps, rfl, hg, D, h2⟩
  try dsimp only [dI_i64, dI_u8, dI_u16, dI_u32, dB_bool, dS_slice, dP_ptr, dT_tup, dA_agg, dStr_str, dF_f, dC_c, dM_m, optP_some, ga0, ga1, ga2, ga3, ga4, cond_true, cond_false, chk_true, Bool.not_true, Bool.not_false, Option.isNone_none, Option.isNone_some, List.toList_toArray]
  rw [cond_neg (by decide)]
  have hn : next ⟨6, 2, [1, 4], -1, 0⟩ 1 = (⟨6, 2, [4], 1, 1⟩, 0, 1, 0) := by rfl
  refine callP.use (Next_spec h2 hg x2.size 1) ?_
  rw [hn]
  have hg' : Good ⟨6, 2, [4], 1, 1⟩ := by
    have := next_good hg 1
    rwa [hn] at this
  rintro _ w4 ⟨rfl, D4, h4, k4, hD4⟩
  try dsimp only [dI_i64, dI_u8, dI_u16, dI_u32, dB_bool, dS_slice, dP_ptr, dT_tup, dA_agg, dStr_str, dF_f, dC_c, dM_m, optP_some, ga0, ga1, ga2, ga3, ga4, cond_true, cond_false, chk_true, Bool.not_true, Bool.not_false, Option.isNone_none, Option.isNone_some, List.toList_toArray]
  have X4 : Ex w1 w4 := x2.then k4 fun i hi => (h2.typed hi).2.1
  refine callP.use (Frees_spec h4 hg') ?_
  rintro _ w6 ⟨x6, p, c, rfl, o6⟩
  try dsimp only [dI_i64, dI_u8, dI_u16, dI_u32, dB_bool, dS_slice, dP_ptr, dT_tup, dA_agg, dStr_str, dF_f, dC_c, dM_m, optP_some, ga0, ga1, ga2, ga3, ga4, cond_true, cond_false, chk_true, Bool.not_true, Bool.not_false, Option.isNone_none, Option.isNone_some, List.toList_toArray]
  rw [cond_pos (by decide), fl_one, fl_zero, cond_pos (by decide +kernel), cond_pos (by decide)]
  obtain ⟨a, rfl, hca⟩ := o6.cells.one (v := .int .i64 4) rfl
  refine chkd_of (by decide) ⟨4, hca, ?_⟩
  rw [cond_pos (by decide), cond_pos (by decide)]
  refine callP.use (Room_spec (h4.ex x6) 5) ?_
  rintro _ w8 ⟨rfl, x8⟩
  try dsimp only [dI_i64, dI_u8, dI_u16, dI_u32, dB_bool, dS_slice, dP_ptr, dT_tup, dA_agg, dStr_str, dF_f, dC_c, dM_m, optP_some, ga0, ga1, ga2, ga3, ga4, cond_true, cond_false, chk_true, Bool.not_true, Bool.not_false, Option.isNone_none, Option.isNone_some, List.toList_toArray]
  exact Ret.mk ⟨by rfl, ((x1.trans X4).trans x6).trans x8⟩

theorem StrandNone_row (n : Int) (w : World) (_ : -9223372036854775808 ≤ n ∧ n ≤ 9223372036854775807) : stopcocklaw16_StrandNone.C n w (Ret fun v w' => v = .bool true ∧ Ex w w') := by
  apply stopcocklaw16_StrandNone.ok
  unfold stopcocklaw16_StrandNone.main
  refine callP.use (Next_none n w) ?_
  rintro _ w1 ⟨rfl, rfl⟩
  try dsimp only [dI_i64, dI_u8, dI_u16, dI_u32, dB_bool, dS_slice, dP_ptr, dT_tup, dA_agg, dStr_str, dF_f, dC_c, dM_m, optP_some, ga0, ga1, ga2, ga3, ga4, cond_true, cond_false, chk_true, Bool.not_true, Bool.not_false, Option.isNone_none, Option.isNone_some, List.toList_toArray]
  refine callP.use (Frees_none w1) ?_
  rintro _ w2 ⟨rfl, rfl⟩
  try dsimp only [dI_i64, dI_u8, dI_u16, dI_u32, dB_bool, dS_slice, dP_ptr, dT_tup, dA_agg, dStr_str, dF_f, dC_c, dM_m, optP_some, ga0, ga1, ga2, ga3, ga4, cond_true, cond_false, chk_true, Bool.not_true, Bool.not_false, Option.isNone_none, Option.isNone_some, List.toList_toArray]
  refine callP.use (awake_spec w2) ?_
  rintro _ w3 ⟨rfl, x3⟩
  try dsimp only [dI_i64, dI_u8, dI_u16, dI_u32, dB_bool, dS_slice, dP_ptr, dT_tup, dA_agg, dStr_str, dF_f, dC_c, dM_m, optP_some, ga0, ga1, ga2, ga3, ga4, cond_true, cond_false, chk_true, Bool.not_true, Bool.not_false, Option.isNone_none, Option.isNone_some, List.toList_toArray]
  rw [cond_pos (by decide)]
  refine callP.use (Free_none n w3) ?_
  rintro _ w4 ⟨rfl, rfl⟩
  try dsimp only [dI_i64, dI_u8, dI_u16, dI_u32, dB_bool, dS_slice, dP_ptr, dT_tup, dA_agg, dStr_str, dF_f, dC_c, dM_m, optP_some, ga0, ga1, ga2, ga3, ga4, cond_true, cond_false, chk_true, Bool.not_true, Bool.not_false, Option.isNone_none, Option.isNone_some, List.toList_toArray]
  rw [cond_pos (by decide)]
  refine callP.use (Room_none n w4) ?_
  rintro _ w5 ⟨rfl, rfl⟩
  try dsimp only [dI_i64, dI_u8, dI_u16, dI_u32, dB_bool, dS_slice, dP_ptr, dT_tup, dA_agg, dStr_str, dF_f, dC_c, dM_m, optP_some, ga0, ga1, ga2, ga3, ga4, cond_true, cond_false, chk_true, Bool.not_true, Bool.not_false, Option.isNone_none, Option.isNone_some, List.toList_toArray]
  rw [cond_pos (by decide), cond_pos (by decide)]
  exact Ret.mk ⟨rfl, x3⟩
end Go.Proofs.Ythopiffhkldnhaa.G
