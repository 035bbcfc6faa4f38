/-
  The plain Strand: New; equal rows; the law StrandPlays: the walk.
-/
import Derived.Test.YthopiffhkldnhaaStrandD
namespace Go.Proofs.Ythopiffhkldnhaa.G
open Go.Dec Go.RowKit
set_option linter.unusedVariables false
set_option linter.unusedSimpArgs false

theorem NewR_loop {B b2 bi : Nat} {w0 : World} {p : Option Addr} {n c : Nat} {xs : List Int} (hl : CellsO w0 p (i64s xs)) (hn : xs.length = n) (hb : n ≤ 100000000000000000) {s0 : St} (hg0 : Good s0) {w : World} (X0 : Ex w0 w) (hB : w0.heap.size ≤ B) (h0 : RIs w B b2 bi s0) {S : Value → World → Prop}
    (hbad : ∀ w', freeAll s0 xs = none → Ex w0 w' → S (.tuple #[.pointer none, .int .i64 1]) w') (hok : ∀ w' s, freeAll s0 xs = some s → Good s → RIs w' B b2 bi s → Ex w0 w' → S (.tuple #[.pointer (some ⟨b2, 0, none⟩), .int .i64 0]) w') :
    stopcockref16_New.l1 p n c b2 0 w (Ret S) := by
  refine ⟨fun q m k t6 t7 w' => t6 = b2 ∧ p = q ∧ n = m ∧ c = k ∧ 0 ≤ t7 ∧ t7 ≤ (n : Int) ∧ Ex w0 w' ∧ ∃ s, Good s ∧ RIs w' B b2 bi s ∧ freeAll s (xs.drop t7.toNat) = freeAll s0 xs, fun q m k t6 t7 w' => ((n : Int) - t7).toNat, ?_, ?_⟩
  · exact ⟨rfl, rfl, rfl, rfl, by omega, by omega, X0, s0, hg0, h0, rfl⟩
  clear h0 X0
  rintro _ _ _ _ t w1 ⟨rfl, rfl, rfl, rfl, ht0, ht1, X1, s, hg, h, hall⟩
  unfold stopcockref16_New.b1
  refine cond_of (fun hc => ?_) (fun hc => ?_)
  · have hc := of_decide_eq_true hc
    obtain ⟨x, hx, _, hdrop⟩ := getE (l := xs) (i := t.toNat) (by omega)
    obtain ⟨a, rfl, hca⟩ := (hl.ex X1).many (j := t.toNat) (i64s_at hx)
    rw [← Nat.mul_one t.toNat] at hca
    refine chkd_of ht0 (chkd_of hc ⟨x, hca, ?_⟩)
    rw [hdrop, freeAll_cons] at hall
    refine callP.use (FreeR_spec h hg x) ?_
    rintro _ w2 ⟨rfl, h2, k2⟩
    try dsimp only [dI_i64, dI_u8, dI_u16, dI_u32, dB_bool, dS_slice, dP_ptr, dT_tup, dA_agg, dStr_str, dF_f, dC_c, dM_m, optP_some, ga0, ga1, ga2, ga3, ga4, cond_true, cond_false, chk_true, Bool.not_true, Bool.not_false, Option.isNone_none, Option.isNone_some, List.toList_toArray]
    have X2 : Ex w0 w2 := X1.then k2 fun i hi => Nat.le_trans hB (h.typed hi).2.1
    refine cond_of (fun he => ?_) (fun he => ?_)
    · have he : ¬ (freed s x).2 = 0 := by simpa using he
      rw [if_neg he] at hall
      exact Ret.mk (hbad w2 hall.symm X2)
    · have he : (freed s x).2 = 0 := by simpa using he
      rw [if_pos he] at hall
      rw [w64 (by omega) (by omega)]
      refine ⟨⟨rfl, rfl, rfl, rfl, by omega, by omega, X2, _, freed_good hg x, h2, ?_⟩, by ((try dsimp only); omega)⟩
      rw [show (t + 1).toNat = t.toNat + 1 by omega]
      exact hall
  · have hc := of_decide_eq_false hc
    rw [List.drop_eq_nil_of_le (by omega)] at hall
    exact Ret.mk (hok w1 s hall.symm hg h X1)
theorem NewR_spec (a b : Int) {p : Option Addr} {n c : Nat} {xs : List Int} (w : World) (hl : CellsO w p (i64s xs)) (hn : xs.length = n) (hb : n ≤ 100000000000000000) :
    stopcockref16_New.C a b p n c w (Ret fun v w' => Ex w w' ∧ match begun a b xs with | none => v = .tuple #[.pointer none, .int .i64 1] | some s => ∃ pr bi, v = .tuple #[.pointer (some ⟨pr, 0, none⟩), .int .i64 0] ∧ Good s ∧ RIs w' w.heap.size pr bi s) := by
  apply stopcockref16_New.ok
  unfold stopcockref16_New.main
  rintro b1 w1 rfl rfl
  have o1 := Own.new (w := w) [.int .i64 a, .int .i64 b] 23
  have x1 := Ex.alloc w (.cells #[.int .i64 a, .int .i64 b] 23)
  generalize w.alloc (.cells #[.int .i64 a, .int .i64 b] 23) = w1 at o1 x1 ⊢
  refine ⟨#[.int .i64 a, .int .i64 b], rfl, o1.cells, ?_⟩
  refine callP.use (May_spec a b w1) ?_
  rintro _ w2 ⟨rfl, x2⟩
  try dsimp only [dI_i64, dI_u8, dI_u16, dI_u32, dB_bool, dS_slice, dP_ptr, dT_tup, dA_agg, dStr_str, dF_f, dC_c, dM_m, optP_some, ga0, ga1, ga2, ga3, ga4, cond_true, cond_false, chk_true, Bool.not_true, Bool.not_false, Option.isNone_none, Option.isNone_some, List.toList_toArray]
  have x12 := x1.trans x2
  unfold begun
  cases hm : may a b with
  | false =>
    simp only [Bool.false_eq_true, if_false]
    rw [cond_pos (by rfl)]
    exact Ret.mk ⟨x12, rfl⟩
  | true =>
    simp only [if_true]
    rw [cond_neg (by rfl)]
    have hgn := newSt_good hm
    have hsg : 6 ≤ a ∧ a ≤ 24 := hgn.segs
    have hdr := Ex.drew w2
    have X3 := x12.trans hdr
    have o3 := (o1.ex x2).ex hdr
    generalize w2.drew = w3 at o3 X3 ⊢
    refine ⟨#[.int .i64 a, .int .i64 b], rfl, o3.cells, a, o3.at (j := 0) rfl, chkd_of (by omega) (chkd_of (by omega) (chkd_of (by omega) ?_))⟩
    rintro b3 w4 rfl rfl
    have em : madeCells #[Value.bool false] (a.toNat * 1) = (List.replicate a.toNat (Value.bool false)).toArray := by
      have := madeCells_rep 1 (a.toNat * 1) (.bool false) (by decide)
      simpa using this
    rw [em]
    have i4 := Own.alloc (w := w3) (List.replicate a.toNat (Value.bool false)) 4 1 a.toNat (by simp)
    have x4 := Ex.alloc w3 (.cells (List.replicate a.toNat (Value.bool false)).toArray 4)
    generalize w3.alloc (.cells (List.replicate a.toNat (Value.bool false)).toArray 4) = w4 at i4 x4 ⊢
    refine chkd_of rfl ⟨(o3.ex x4).cells, ?_⟩
    have hfill : Instr.fill (fun i => [(0, 2), (2, 1), (3, 1), (4, 1)].toArray[i]?) #[(Value.int .i64 0), (Value.int .i64 0), (Value.slice none 0 0), (Value.int .i64 0), (Value.int .i64 0)] [(0, (Value.agg #[.int .i64 a, .int .i64 b])), (1, (Value.slice (some ⟨w3.heap.size, 0, none⟩) a.toNat a.toNat)), (2, (Value.int .i64 (-1)))] = some #[.int .i64 a, .int .i64 b, .slice (some ⟨w3.heap.size, 0, none⟩) a.toNat a.toNat, .int .i64 (-1), .int .i64 0] := by rfl
    refine optP_of hfill ?_
    rintro b5 w5 rfl rfl
    have o5 := Own.new (w := w4) [.int .i64 a, .int .i64 b, .slice (some ⟨w3.heap.size, 0, none⟩) a.toNat a.toNat, .int .i64 (-1), .int .i64 0] 47
    have x5 := Ex.alloc w4 (.cells #[.int .i64 a, .int .i64 b, .slice (some ⟨w3.heap.size, 0, none⟩) a.toNat a.toNat, .int .i64 (-1), .int .i64 0] 47)
    have X4 := X3.trans x4
    have i5 := (i4.ex x5).lower X3.size
    have o5 := o5.lower X4.size
    have hs : RIs (w4.alloc (.cells #[.int .i64 a, .int .i64 b, .slice (some ⟨w3.heap.size, 0, none⟩) a.toNat a.toNat, .int .i64 (-1), .int .i64 0] 47)) w.heap.size w4.heap.size w3.heap.size (newSt a b) := ⟨o5, by
      show Own _ _ 4 1 _ a.toNat a.toNat (marks a [])
      rw [marks_new]
      exact i5⟩
    exact NewR_loop hl hn hb hgn (X4.trans x5) (Nat.le_refl _) hs (fun w' hf X => ⟨X, by rw [hf]⟩) (fun w' s hf hg h X => ⟨X, by rw [hf]; exact ⟨_, _, rfl, hg, h⟩⟩)

theorem Ints_spec {p q : Option Addr} {n c c2 : Nat} {xs : List Int} {w : World} (h1 : CellsO w p (i64s xs)) (h2 : CellsO w q (i64s xs)) (hn : xs.length = n) (hb : n ≤ 1000000) : stopcockref01_Ints.C p n c q n c2 w (Ret fun v w' => v = .bool true ∧ Ex w w') := by
  apply stopcockref01_Ints.ok
  unfold stopcockref01_Ints.main
  rw [cond_neg (by simp)]
  refine ⟨fun t0p t0n t0c t1p t1n t1c t w' => p = t0p ∧ n = t0n ∧ c = t0c ∧ q = t1p ∧ n = t1n ∧ c2 = t1c ∧ 0 ≤ t ∧ t ≤ (n : Int) ∧ Ex w w', fun t0p t0n t0c t1p t1n t1c t w' => ((n : Int) - t).toNat, ?_, ?_⟩
  · exact ⟨rfl, rfl, rfl, rfl, rfl, rfl, by omega, by omega, Ex.refl w⟩
  rintro _ _ _ _ m _ t w1 ⟨rfl, rfl, rfl, rfl, rfl, rfl, h0, h1', x1⟩
  unfold stopcockref01_Ints.b1
  refine cond_of (fun hc => ?_) (fun _ => Ret.mk ⟨rfl, x1⟩)
  have hc := of_decide_eq_true hc
  obtain ⟨x, hx, _⟩ := getE (l := xs) (i := t.toNat) (by omega)
  obtain ⟨a, rfl, hca⟩ := (h1.ex x1).many (j := t.toNat) (i64s_at hx)
  obtain ⟨b, rfl, hcb⟩ := (h2.ex x1).many (j := t.toNat) (i64s_at hx)
  rw [← Nat.mul_one t.toNat] at hca hcb
  refine chkd_of h0 (chkd_of hc ⟨x, hca, chkd_of h0 (chkd_of hc ⟨x, hcb, fun k1 => ?_⟩)⟩)
  rw [cond_neg (by simp), w64 (by omega) (by omega)]
  exact ⟨⟨rfl, rfl, rfl, rfl, rfl, rfl, by omega, by omega, x1.trans (Ex.drewN _ _)⟩, by ((try dsimp only); omega)⟩

/-! ### Both beside each other -/
def Two (w0 w : World) (ps pr bi : Nat) (s : St) : Prop := Good s ∧ Ex w0 w ∧ RIs w w0.heap.size pr bi s ∧ ∃ D, SIs w w0.heap.size ps s D
theorem Two.ex {w0 w w' : World} {ps pr bi : Nat} {s : St} (h : Two w0 w ps pr bi s) (x : Ex w w') : Two w0 w' ps pr bi s := by
  obtain ⟨hg, X, hr, D, hs⟩ := h
  exact ⟨hg, X.trans x, hr.ex x, D, hs.ex x⟩
theorem s_r {w w' : World} {B ps pr bi : Nat} {s t : St} {D : Nat → Prop} (h : SIs w B ps s D) (r : RIs w B pr bi t) (k : Kp w w' D) : RIs w' B pr bi t :=
  r.kp k fun i hi hd => by
    rcases (r.typed hi).1 with a | a <;> rcases (h.typed hd).1 with b | b <;> exact a.ne b (by decide) rfl
theorem r_s {w w' : World} {B ps pr bi : Nat} {s t : St} {D : Nat → Prop} (h : SIs w B ps s D) (r : RIs w B pr bi t) (k : Kp w w' (RD pr bi)) : SIs w' B ps s D :=
  h.kp k fun i hi hd => by
    rcases (h.typed hi).1 with a | a <;> rcases (r.typed hd).1 with b | b <;> exact a.ne b (by decide) rfl

abbrev RR (w0 : World) : Ending → World → Prop := Ret fun v w' => v = .bool true ∧ Ex w0 w'
theorem k1_spec {w0 w : World} {ps pr bi : Nat} {s : St} (h : Two w0 w ps pr bi s) {p : Option Addr} {n c : Nat} {t11 t58 : Int} {t59 : Bool} {C1 : Option Addr → Nat → Nat → Option Addr → Option Addr → Int → World → Prop}
    (hC : ∀ w', Two w0 w' ps pr bi s → C1 p n c (some ⟨ps, 0, none⟩) (some ⟨pr, 0, none⟩) (IntKind.i64.wrap (t11 + 1)) w') :
    stopcocklaw16_StrandPlays.k1 p n c (some ⟨ps, 0, none⟩) (some ⟨pr, 0, none⟩) t11 t58 t59 w (RR w0) C1 := by
  unfold stopcocklaw16_StrandPlays.k1
  have h0 := h
  obtain ⟨hg, X, hr, D, hs⟩ := h0
  refine callP.use (Frees_spec hs hg) ?_
  rintro _ w1 ⟨x1, p1, c1, rfl, o1⟩
  try dsimp only [dI_i64, dI_u8, dI_u16, dI_u32, dB_bool, dS_slice, dP_ptr, dT_tup, dA_agg, dStr_str, dF_f, dC_c, dM_m, optP_some, ga0, ga1, ga2, ga3, ga4, cond_true, cond_false, chk_true, Bool.not_true, Bool.not_false, Option.isNone_none, Option.isNone_some, List.toList_toArray]
  refine callP.use (FreesR_spec (hr.ex x1) hg) ?_
  rintro _ w2 ⟨x2, p2, c2, rfl, o2⟩
  try dsimp only [dI_i64, dI_u8, dI_u16, dI_u32, dB_bool, dS_slice, dP_ptr, dT_tup, dA_agg, dStr_str, dF_f, dC_c, dM_m, optP_some, ga0, ga1, ga2, ga3, ga4, cond_true, cond_false, chk_true, Bool.not_true, Bool.not_false, Option.isNone_none, Option.isNone_some, List.toList_toArray]
  refine callP.use (Ints_spec (o1.cells.ex x2) o2.cells rfl (by have := hg.few; omega)) ?_
  rintro _ w3 ⟨rfl, x3⟩
  try dsimp only [dI_i64, dI_u8, dI_u16, dI_u32, dB_bool, dS_slice, dP_ptr, dT_tup, dA_agg, dStr_str, dF_f, dC_c, dM_m, optP_some, ga0, ga1, ga2, ga3, ga4, cond_true, cond_false, chk_true, Bool.not_true, Bool.not_false, Option.isNone_none, Option.isNone_some, List.toList_toArray]
  rw [cond_neg (by rfl)]
  have x13 := (x1.trans x2).trans x3
  simp only [addr1]
  refine ⟨_, (hr.ex x13).cell.at (j := 3) rfl, ?_⟩
  rw [cond_neg (by simp)]
  exact hC w3 (h.ex x13)

theorem StrandPlays_row (a b : Int) (p1 : Option Addr) (n1 c1 : Nat) (xs : List Int) (p2 : Option Addr) (n2 c2 : Nat) (rows : List (List Value)) (w : World) (_ : -9223372036854775808 ≤ a ∧ a ≤ 9223372036854775807) (_ : -9223372036854775808 ≤ b ∧ b ≤ 9223372036854775807)
    (i1 : Ints .i64 w p1 n1 c1 xs) (m1 : c1 * 8 ≤ 140737488351232) (hl : SlIs w (fun b c => c * b ≤ 140737488351232) 16 (LineIs w (fun b c => c * b ≤ 140737488351232) (.int .i64 (.int .i64 .done))) p2 n2 c2 rows) :
    stopcocklaw16_StrandPlays.C a b p1 n1 c1 p2 n2 c2 w (Ret fun v w' => v = .bool true ∧ Ex w w') := by
  apply stopcocklaw16_StrandPlays.ok
  unfold stopcocklaw16_StrandPlays.main
  rintro b1 w1 rfl rfl
  have o1 := Own.new (w := w) [.int .i64 a, .int .i64 b] 23
  have x1 := Ex.alloc w (.cells #[.int .i64 a, .int .i64 b] 23)
  generalize w.alloc (.cells #[.int .i64 a, .int .i64 b] 23) = w1 at o1 x1 ⊢
  refine ⟨#[.int .i64 a, .int .i64 b], rfl, o1.cells, ?_⟩
  have hrm := i1.room
  have hcl : CellsO w p1 (i64s xs) := i1.cells
  refine callP.use (New_spec a b (c := c1) w1 (hcl.ex x1) i1.size (by omega)) ?_
  rintro _ w2 ⟨x2, h2⟩
  have x12 := x1.trans x2
  have second := NewR_spec a b (c := c1) w2 (hcl.ex x12) i1.size (by omega)
  cases hb : begun a b xs with
  | none =>
    rw [hb] at h2 second
    subst h2
    try dsimp only [dI_i64, dI_u8, dI_u16, dI_u32, dB_bool, dS_slice, dP_ptr, dT_tup, dA_agg, dStr_str, dF_f, dC_c, dM_m, optP_some, ga0, ga1, ga2, ga3, ga4, cond_true, cond_false, chk_true, Bool.not_true, Bool.not_false, Option.isNone_none, Option.isNone_some, List.toList_toArray]
    refine ⟨#[.int .i64 a, .int .i64 b], rfl, (o1.ex x2).cells, ?_⟩
    refine callP.use second ?_
    rintro _ w4 ⟨x4, rfl⟩
    try dsimp only [dI_i64, dI_u8, dI_u16, dI_u32, dB_bool, dS_slice, dP_ptr, dT_tup, dA_agg, dStr_str, dF_f, dC_c, dM_m, optP_some, ga0, ga1, ga2, ga3, ga4, cond_true, cond_false, chk_true, Bool.not_true, Bool.not_false, Option.isNone_none, Option.isNone_some, List.toList_toArray]
    rw [cond_pos (by decide)]
    refine callP.use (awake_spec w4) ?_
    rintro _ w6 ⟨rfl, x6⟩
    try dsimp only [dI_i64, dI_u8, dI_u16, dI_u32, dB_bool, dS_slice, dP_ptr, dT_tup, dA_agg, dStr_str, dF_f, dC_c, dM_m, optP_some, ga0, ga1, ga2, ga3, ga4, cond_true, cond_false, chk_true, Bool.not_true, Bool.not_false, Option.isNone_none, Option.isNone_some, List.toList_toArray]
    rw [cond_pos (by decide)]
    exact Ret.mk ⟨rfl, (x12.trans x4).trans x6⟩
  | some s =>
    rw [hb] at h2 second
    obtain ⟨ps, rfl, hg, D, hs⟩ := h2
    try dsimp only [dI_i64, dI_u8, dI_u16, dI_u32, dB_bool, dS_slice, dP_ptr, dT_tup, dA_agg, dStr_str, dF_f, dC_c, dM_m, optP_some, ga0, ga1, ga2, ga3, ga4, cond_true, cond_false, chk_true, Bool.not_true, Bool.not_false, Option.isNone_none, Option.isNone_some, List.toList_toArray]
    refine ⟨#[.int .i64 a, .int .i64 b], rfl, (o1.ex x2).cells, ?_⟩
    refine callP.use second ?_
    rintro _ w4 ⟨x4, pr, bi, rfl, _, hr⟩
    try dsimp only [dI_i64, dI_u8, dI_u16, dI_u32, dB_bool, dS_slice, dP_ptr, dT_tup, dA_agg, dStr_str, dF_f, dC_c, dM_m, optP_some, ga0, ga1, ga2, ga3, ga4, cond_true, cond_false, chk_true, Bool.not_true, Bool.not_false, Option.isNone_none, Option.isNone_some, List.toList_toArray]
    rw [cond_neg (by decide)]
    refine callP.use (awake_spec w4) ?_
    rintro _ w6 ⟨rfl, x6⟩
    try dsimp only [dI_i64, dI_u8, dI_u16, dI_u32, dB_bool, dS_slice, dP_ptr, dT_tup, dA_agg, dStr_str, dF_f, dC_c, dM_m, optP_some, ga0, ga1, ga2, ga3, ga4, cond_true, cond_false, chk_true, Bool.not_true, Bool.not_false, Option.isNone_none, Option.isNone_some, List.toList_toArray]
    rw [cond_neg (by decide), cond_neg (by decide)]
    obtain ⟨pf, cf, q, hD⟩ := hs
    have hs : SIs w2 w.heap.size ps s D := ⟨pf, cf, ⟨q.cell.lower x1.size, q.fr.lower x1.size⟩, hD⟩
    have T6 : Two w w6 ps pr bi s := ⟨hg, (x12.trans x4).trans x6, (hr.lower x12.size).ex x6, D, (hs.ex x4).ex x6⟩
    refine ⟨fun q m k t7 t9 t11 w' => p2 = q ∧ n2 = m ∧ c2 = k ∧ t7 = some ⟨ps, 0, none⟩ ∧ t9 = some ⟨pr, 0, none⟩ ∧ 0 ≤ t11 ∧ t11 ≤ 200 ∧ ∃ s, Two w w' ps pr bi s, fun q m k t7 t9 t11 w' => (200 - t11).toNat, ?_, ?_⟩
    · exact ⟨rfl, rfl, rfl, rfl, rfl, by omega, by omega, s, T6⟩
    clear T6 hs q hr hg x6 x4 x12 x2 second x1 o1 hb
    rintro _ _ _ _ _ t w5 ⟨rfl, rfl, rfl, rfl, rfl, h0, h200, s, T5⟩
    unfold stopcocklaw16_StrandPlays.b1
    have hX5 := T5.2.1
    refine cond_of (fun hc => ?_) (fun _ => Ret.mk ⟨rfl, hX5⟩)
    have hc := of_decide_eq_true hc
    refine cond_of (fun hc2 => ?_) (fun _ => Ret.mk ⟨rfl, hX5⟩)
    have hc2 := of_decide_eq_true hc2
    have hrl := hl.size
    obtain ⟨r, hr, hrm, _⟩ := getE (l := rows) (i := t.toNat) (by omega)
    have hline := hl.each r hrm
    obtain ⟨a, haa, hrow⟩ := (hl.cells.ex hX5).row (fun r hr => (hl.each r hr).len) (by decide) hr
    obtain ⟨what, t1, rfl, _, k, t2, rfl, hwk, ht2⟩ := hline
    have : t2 = [] := ht2
    subst this
    refine chkd_of h0 (chkd_of hc (optP_of haa ⟨#[.int .i64 what, .int .i64 k], rfl, hrow, ?_⟩))
    rintro b3 w6 rfl rfl
    have o6 := Own.new (w := w5) [.int .i64 0, .int .i64 0] 35
    have x6 := Ex.alloc w5 (.cells #[.int .i64 0, .int .i64 0] 35)
    generalize w5.alloc (.cells #[.int .i64 0, .int .i64 0] 35) = w6 at o6 x6 ⊢
    refine chkd_of rfl ?_
    refine o6.put (by rfl) pair_one fun w7 k7 o7 => ?_
    have x7 : Ex w5 w7 := x6.then k7 fun i hi => by rw [hi]; exact Nat.le_refl _
    have T7 := T5.ex x7
    have o7 : Own w7 w5.heap.size 35 2 (some ⟨w5.heap.size, 0, none⟩) 1 1 [.int .i64 what, .int .i64 k] := o7
    have B7 := T7.2.1.size
    clear T5 o6 x6 k7
    have step : ∀ (w8 : World) (s' : St), Two w w8 ps pr bi s' → stopcocklaw16_StrandPlays.k1 p2 n2 c2 (some ⟨ps, 0, none⟩) (some ⟨pr, 0, none⟩) t t (decide (t < 200)) w8 (RR w) (fun q' m' k' t7' t9' t11' w' => (p2 = q' ∧ n2 = m' ∧ c2 = k' ∧ t7' = some ⟨ps, 0, none⟩ ∧ t9' = some ⟨pr, 0, none⟩ ∧ 0 ≤ t11' ∧ t11' ≤ 200 ∧ ∃ s, Two w w' ps pr bi s) ∧ (200 - t11').toNat < (200 - t).toNat) := by
      intro w8 s' T8
      refine k1_spec T8 fun w9 T9 => ?_
      rw [w64 (by omega) (by omega)]
      exact ⟨⟨rfl, rfl, rfl, rfl, rfl, by omega, by omega, s', T9⟩, by omega⟩
    refine ⟨_, o7.at (j := 0) rfl, cond_of (fun _ => ?_) (fun _ => ⟨_, o7.at (j := 0) rfl, cond_of (fun _ => ?_) (fun _ => ?_)⟩)⟩
    · -- Next
      obtain ⟨hg, X7, hr7, D, hs7⟩ := T7
      refine ⟨_, o7.at (j := 1) rfl, ?_⟩
      refine callP.use (Next_spec hs7 hg B7 k) ?_
      rintro _ w8 ⟨rfl, D8, hs8, k8, hD8⟩
      try dsimp only [dI_i64, dI_u8, dI_u16, dI_u32, dB_bool, dS_slice, dP_ptr, dT_tup, dA_agg, dStr_str, dF_f, dC_c, dM_m, optP_some, ga0, ga1, ga2, ga3, ga4, cond_true, cond_false, chk_true, Bool.not_true, Bool.not_false, Option.isNone_none, Option.isNone_some, List.toList_toArray]
      have o8 := hs7.off k8 o7 (by decide) (by decide)
      have hr8 := s_r hs7 hr7 k8
      refine ⟨_, o8.at (j := 1) rfl, ?_⟩
      refine callP.use (NextR_spec hr8 hg k) ?_
      rintro _ w9 ⟨rfl, hr9, k9⟩
      try dsimp only [dI_i64, dI_u8, dI_u16, dI_u32, dB_bool, dS_slice, dP_ptr, dT_tup, dA_agg, dStr_str, dF_f, dC_c, dM_m, optP_some, ga0, ga1, ga2, ga3, ga4, cond_true, cond_false, chk_true, Bool.not_true, Bool.not_false, Option.isNone_none, Option.isNone_some, List.toList_toArray]
      have hg9 := next_good hg k
      have hs9 := r_s hs8 hr8 k9
      have hrange : (0 ≤ (next s k).2.2.1 ∧ (next s k).2.2.1 < 25) ∧ (0 ≤ (next s k).2.2.2 ∧ (next s k).2.2.2 < 25) := by
        unfold next
        split
        · simp
        · split
          · rename_i hk hroom
            obtain ⟨g1, g2, g3, g4, g5⟩ := turn_good hg (by omega) hroom
            have := g1.head; have := g1.segs; have := g1.used; have := g1.blocks
            dsimp only
            omega
          · simp
      rw [fl_eq hrange.1 hrange.1, fl_eq hrange.2 hrange.2, cond_neg (by simp), cond_neg (by simp)]
      exact step w9 _ ⟨hg9, (X7.then k8 fun i hi => (hs7.typed hi).2.1).then k9 fun i hi => (hr8.typed hi).2.1, hr9, D8, hs9⟩
    · -- Room
      have hdr := Ex.drew w7
      have T8 := T7.ex hdr
      have o8 := o7.ex hdr
      generalize w7.drew = w8 at T8 o8 ⊢
      obtain ⟨hg, X8, hr8, D, hs8⟩ := T8
      refine ⟨_, o8.at (j := 1) rfl, _, o8.at (j := 1) rfl, ?_⟩
      refine callP.use (Room_spec hs8 k) ?_
      rintro _ w9 ⟨rfl, x9⟩
      try dsimp only [dI_i64, dI_u8, dI_u16, dI_u32, dB_bool, dS_slice, dP_ptr, dT_tup, dA_agg, dStr_str, dF_f, dC_c, dM_m, optP_some, ga0, ga1, ga2, ga3, ga4, cond_true, cond_false, chk_true, Bool.not_true, Bool.not_false, Option.isNone_none, Option.isNone_some, List.toList_toArray]
      refine ⟨(o8.ex x9).at (j := 1) rfl, ?_⟩
      refine callP.use (RoomR_spec (hr8.ex x9) hg k) ?_
      rintro _ w10 ⟨rfl, x10⟩
      try dsimp only [dI_i64, dI_u8, dI_u16, dI_u32, dB_bool, dS_slice, dP_ptr, dT_tup, dA_agg, dStr_str, dF_f, dC_c, dM_m, optP_some, ga0, ga1, ga2, ga3, ga4, cond_true, cond_false, chk_true, Bool.not_true, Bool.not_false, Option.isNone_none, Option.isNone_some, List.toList_toArray]
      rw [cond_neg (by simp)]
      exact step w10 _ ⟨hg, (X8.trans x9).trans x10, (hr8.ex x9).ex x10, D, (hs8.ex x9).ex x10⟩
    · -- Free
      have hdr := Ex.drew w7
      have T8 := T7.ex hdr
      have o8 := o7.ex hdr
      generalize w7.drew = w8 at T8 o8 ⊢
      obtain ⟨hg, X8, hr8, D, hs8⟩ := T8
      refine ⟨_, o8.at (j := 1) rfl, _, o8.at (j := 1) rfl, ?_⟩
      refine callP.use (Free_spec hs8 hg X8.size k) ?_
      rintro _ w9 ⟨rfl, D9, hs9, k9, hD9⟩
      try dsimp only [dI_i64, dI_u8, dI_u16, dI_u32, dB_bool, dS_slice, dP_ptr, dT_tup, dA_agg, dStr_str, dF_f, dC_c, dM_m, optP_some, ga0, ga1, ga2, ga3, ga4, cond_true, cond_false, chk_true, Bool.not_true, Bool.not_false, Option.isNone_none, Option.isNone_some, List.toList_toArray]
      have o9 := hs8.off k9 o8 (by decide) (by decide)
      have hr9 := s_r hs8 hr8 k9
      refine ⟨o9.at (j := 1) rfl, ?_⟩
      refine callP.use (FreeR_spec hr9 hg k) ?_
      rintro _ w10 ⟨rfl, hr10, k10⟩
      try dsimp only [dI_i64, dI_u8, dI_u16, dI_u32, dB_bool, dS_slice, dP_ptr, dT_tup, dA_agg, dStr_str, dF_f, dC_c, dM_m, optP_some, ga0, ga1, ga2, ga3, ga4, cond_true, cond_false, chk_true, Bool.not_true, Bool.not_false, Option.isNone_none, Option.isNone_some, List.toList_toArray]
      rw [cond_neg (by simp)]
      exact step w10 _ ⟨freed_good hg k, (X8.then k9 fun i hi => (hs8.typed hi).2.1).then k10 fun i hi => (hr9.typed hi).2.1, hr10, D9, r_s hs9 hr9 k10⟩
end Go.Proofs.Ythopiffhkldnhaa.G
