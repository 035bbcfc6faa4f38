/-
  The device: one write, a sector of one byte, the simplest facts; the laws BasinNone and BasinFails: the walks.
-/
import Derived.Test.YticdeknmeafjcaaBasinC
namespace Go.Proofs.Yticdeknmeafjcaa.G
open Go.Dec Go.RowKit
set_option linter.unusedVariables false
set_option linter.unusedSimpArgs false

def rep (x : Int) : List Int := List.replicate 64 x
theorem rep_sec {x : Int} (h : 0 ≤ x ∧ x < 256) : Sec (rep x) := ⟨by simp [rep], fun y hy => by rw [List.eq_of_mem_replicate hy]; exact h⟩
theorem After.size {w w' : World} {B pd : Nat} {d : Dev} {D : Nat → Prop} (h : After w B pd d D w') : w.heap.size ≤ w'.heap.size := by
  obtain ⟨_, _, _, k, _⟩ := h
  exact k.size

/-- a write that stands in a variable -/
theorem PutOne {w : World} {B pd : Nat} {d : Dev} {D : Nat → Prop} (h : DevIs w B pd d D) (hg : Good d) (hB : B ≤ w.heap.size) {b B1 B2 : Nat} {i : Int} {p : Option Addr} {c : Nat} {s : List Int} (o : Own w B1 32 2 (some ⟨b, 0, none⟩) 1 1 [.int .i64 i, .slice p 64 c]) (o5 : Own w B2 5 1 p 64 c (u8s s)) (hs : Sec s) (hcnt : d.loose.length ≤ 100000000) :
    basin_Basin_Put.C (some ⟨pd, 0, none⟩) (some ⟨b, 0, none⟩) 1 1 w (Ret fun v w' => v = .int .i64 (Put d [(i, s)]).2 ∧ After w B pd (Put d [(i, s)]).1 D w') :=
  Put_spec h hg hB (ws := [⟨i, s, p, 64, c⟩]) rfl (CellsK.of_own h o (by decide) (by decide) (by decide)) (fun x hx => by
    simp only [List.mem_singleton] at hx
    subst hx
    exact ⟨CellsK.of_own h o5 (by decide) (by decide) (by decide), hs.1, hs.2⟩) (by omega) (by omega)
theorem put_live {d : Dev} (h1 : d.after = -1) (h2 : d.off = false) {i : Int} {s : List Int} (hi : 0 ≤ i ∧ i < (d.now.length : Int)) (hs : s.length = 64) : Put d [(i, s)] = (put1 d i s, 0) := by
  have hsp : spend d = d := by unfold spend; rw [if_neg (by omega), if_neg (by omega)]
  unfold Put
  rw [if_neg (by rw [h2]; decide), if_neg (by simp [wide, hs]), if_neg (by simp [out]; omega)]
  unfold putAll
  rw [hsp, if_neg (by rw [h2]; decide)]
  rfl
theorem flush_live {d : Dev} (h1 : d.after = -1) (h2 : d.off = false) : flush d = ({ d with sure := d.now, loose := [] }, 0) := by
  have hsp : spend d = d := by unfold spend; rw [if_neg (by omega), if_neg (by omega)]
  unfold flush
  rw [hsp, if_neg (by rw [h2]; decide), if_neg (by rw [h2]; decide)]

theorem fill_spec (x : Int) (w : World) : stopcocklaw05_fill.C x w (Ret fun v w' => ∃ p c, v = .slice p 64 c ∧ Ex w w' ∧ Own w' w.heap.size 5 1 p 64 c (u8s (rep x))) := by
  apply stopcocklaw05_fill.ok
  unfold stopcocklaw05_fill.main
  rintro b1 w1 rfl rfl
  rw [madeCells_int]
  have o1 := Own.alloc (w := w) ((List.replicate (64 * 1) (0 : Int)).map (Value.int .u8)) 5 1 64 (by simp)
  have x1 := Ex.alloc w (.cells ((List.replicate (64 * 1) (0 : Int)).map (Value.int .u8)).toArray 5)
  generalize w.alloc (.cells ((List.replicate (64 * 1) (0 : Int)).map (Value.int .u8)).toArray 5) = w1 at o1 x1 ⊢
  refine ⟨fun t0 t3p t3n t3c t4 w' => x = t0 ∧ some ⟨w.heap.size, 0, none⟩ = t3p ∧ 64 = t3n ∧ 64 = t3c ∧ 0 ≤ t4 ∧ t4 ≤ 64 ∧ Ex w w' ∧ Own w' w.heap.size 5 1 (some ⟨w.heap.size, 0, none⟩) 64 64 (u8s (List.replicate t4.toNat x ++ List.replicate (64 - t4.toNat) 0)), fun t0 t3p t3n t3c t4 w' => (64 - t4).toNat, ?_, ?_⟩
  · exact ⟨rfl, rfl, rfl, rfl, by omega, by omega, x1, o1⟩
  clear o1 x1
  rintro _ _ _ _ t w2 ⟨rfl, rfl, rfl, rfl, h0, h1, x2, o2⟩
  unfold stopcocklaw05_fill.b1
  refine cond_of (fun hc => ?_) (fun hc => ?_)
  · have hc := of_decide_eq_true hc
    obtain ⟨q1, q2, q3, q4⟩ := o2.store (j := t.toNat) (by omega) (.int .u8 x) rfl
    refine chkd_of h0 (chkd_of (by omega) ⟨q1, q2, ?_⟩)
    rintro w3 rfl
    rw [w64 (by omega) (by omega)]
    refine ⟨⟨rfl, rfl, rfl, rfl, by omega, by omega, x2.then q4 fun i hi => by rw [hi]; exact Nat.le_refl _, ?_⟩, by ((try dsimp only); omega)⟩
    have e : (u8s (List.replicate t.toNat x ++ List.replicate (64 - t.toNat) 0)).set t.toNat (.int .u8 x) = u8s (List.replicate (t + 1).toNat x ++ List.replicate (64 - (t + 1).toNat) 0) := by
      unfold u8s
      rw [← List.map_set, List.set_append_right _ _ (by simp)]
      congr 1
      simp only [List.length_replicate, Nat.sub_self]
      rw [show 64 - t.toNat = (64 - (t + 1).toNat) + 1 by omega, List.replicate_succ, List.set_cons_zero, show (t + 1).toNat = t.toNat + 1 by omega, List.replicate_succ', List.append_assoc]
      rfl
    rw [e] at q3
    exact q3
  · have hc := of_decide_eq_false hc
    have : t = 64 := by omega
    subst this
    exact Ret.mk ⟨_, _, rfl, x2, by simpa [rep] using o2⟩

theorem awake_spec (w : World) : stopcocklaw05_awake.C w (Ret fun v w' => v = .bool true ∧ Ex w w') := by
  apply stopcocklaw05_awake.ok
  unfold stopcocklaw05_awake.main
  refine callP.use (New_spec 3 w (by omega)) ?_
  rintro _ w1 ⟨pd, D, rfl, x1, h1⟩
  have hg1 : Good (fresh 3) := fresh_good (by omega)
  try dsimp only [dI_i64, dI_u8, dI_u16, dI_u32, dB_bool, dS_slice, dP_ptr, dT_tup, dA_agg, dStr_str, dF_f, dC_c, dM_m, optP_some, ga0, ga1, ga2, ga3, ga4, cond_true, cond_false, chk_true, Bool.not_true, Bool.not_false, Option.isNone_none, Option.isNone_some, List.toList_toArray]
  rw [cond_neg (by decide)]
  rintro b1 w3 rfl rfl
  rw [madeCells_int]
  have o3 := Own.alloc (w := w1) ((List.replicate (64 * 1) (0 : Int)).map (Value.int .u8)) 5 1 64 (by simp)
  have x3 := Ex.alloc w1 (.cells ((List.replicate (64 * 1) (0 : Int)).map (Value.int .u8)).toArray 5)
  generalize w1.alloc (.cells ((List.replicate (64 * 1) (0 : Int)).map (Value.int .u8)).toArray 5) = w3 at o3 x3 ⊢
  refine o3.put1 (j := 0) (by omega) rfl fun w4 k4 o4 => ?_
  have x4 : Ex w1 w4 := x3.then k4 fun i hi => by rw [hi]; exact Nat.le_refl _
  have e4 : (List.map (Value.int .u8) (List.replicate (64 * 1) (0 : Int))).set 0 (.int .u8 7) = u8s (7 :: List.replicate 63 0) := rfl
  rw [e4] at o4
  have hs : Sec (7 :: List.replicate 63 0) := ⟨by simp, fun x hx => by
    rcases List.mem_cons.1 hx with rfl | hx
    · omega
    · rw [List.eq_of_mem_replicate hx]; omega⟩
  rintro b2 w5 rfl rfl
  have o5 := Own.new (w := w4) [.int .i64 1, .slice (some ⟨w1.heap.size, 0, none⟩) 64 64] 32
  have x5 := Ex.alloc w4 (.cells #[.int .i64 1, .slice (some ⟨w1.heap.size, 0, none⟩) 64 64] 32)
  generalize w4.alloc (.cells #[.int .i64 1, .slice (some ⟨w1.heap.size, 0, none⟩) 64 64] 32) = w5 at o5 x5 ⊢
  have x15 := x4.trans x5
  refine callP.use (PutOne (h1.ex x15) hg1 (Nat.le_trans x1.size x15.size) o5 (o4.ex x5) hs (by simp [fresh])) ?_
  rw [put_live (by rfl) (by rfl) (by simp [fresh]) hs.1]
  rintro _ w6 ⟨rfl, D6, h6, hg6, k6, hD6⟩
  have X6 : Ex w w6 := (x1.trans x15).then k6 fun i hi => ((h1.ex x15).typed hi).2.1
  try dsimp only [dI_i64, dI_u8, dI_u16, dI_u32, dB_bool, dS_slice, dP_ptr, dT_tup, dA_agg, dStr_str, dF_f, dC_c, dM_m, optP_some, ga0, ga1, ga2, ga3, ga4, cond_true, cond_false, chk_true, Bool.not_true, Bool.not_false, Option.isNone_none, Option.isNone_some, List.toList_toArray]
  refine callP.use (Get_spec h6 hg6 1) ?_
  rintro _ w8 ⟨x8, hv⟩
  rcases hv with ⟨hv, _⟩ | ⟨_, p', c', s, hs8, rfl, o8⟩
  · exact absurd (by decide) hv
  have : s = 7 :: List.replicate 63 0 := by
    have : some (7 :: List.replicate 63 (0 : Int)) = some s := hs8
    exact (Option.some.inj this).symm
  subst this
  try dsimp only [dI_i64, dI_u8, dI_u16, dI_u32, dB_bool, dS_slice, dP_ptr, dT_tup, dA_agg, dStr_str, dF_f, dC_c, dM_m, optP_some, ga0, ga1, ga2, ga3, ga4, cond_true, cond_false, chk_true, Bool.not_true, Bool.not_false, Option.isNone_none, Option.isNone_some, List.toList_toArray]
  rw [cond_pos (by decide), cond_pos (by decide), cond_pos (by decide)]
  obtain ⟨a1, rfl, hc1⟩ := (o8.cells).one (v := .int .u8 7) rfl
  refine chkd_of (by omega) ⟨_, hc1, ?_⟩
  rw [cond_pos (by decide)]
  have h8 := h6.ex x8
  refine callP.use (Loose_spec h8) ?_
  rintro _ w10 ⟨rfl, rfl⟩
  try dsimp only [dI_i64, dI_u8, dI_u16, dI_u32, dB_bool, dS_slice, dP_ptr, dT_tup, dA_agg, dStr_str, dF_f, dC_c, dM_m, optP_some, ga0, ga1, ga2, ga3, ga4, cond_true, cond_false, chk_true, Bool.not_true, Bool.not_false, Option.isNone_none, Option.isNone_some, List.toList_toArray]
  rw [cond_pos (by rfl)]
  refine callP.use (Size_spec h8) ?_
  rintro _ w12 ⟨rfl, rfl⟩
  try dsimp only [dI_i64, dI_u8, dI_u16, dI_u32, dB_bool, dS_slice, dP_ptr, dT_tup, dA_agg, dStr_str, dF_f, dC_c, dM_m, optP_some, ga0, ga1, ga2, ga3, ga4, cond_true, cond_false, chk_true, Bool.not_true, Bool.not_false, Option.isNone_none, Option.isNone_some, List.toList_toArray]
  rw [cond_pos (by rfl)]
  refine callP.use (Flush_spec h8 hg6) ?_
  rw [flush_live (by rfl) (by rfl)]
  rintro _ w14 ⟨rfl, D14, h14, hg14, k14, _⟩
  try dsimp only [dI_i64, dI_u8, dI_u16, dI_u32, dB_bool, dS_slice, dP_ptr, dT_tup, dA_agg, dStr_str, dF_f, dC_c, dM_m, optP_some, ga0, ga1, ga2, ga3, ga4, cond_true, cond_false, chk_true, Bool.not_true, Bool.not_false, Option.isNone_none, Option.isNone_some, List.toList_toArray]
  rw [cond_pos (by decide)]
  refine callP.use (Loose_spec h14) ?_
  rintro _ w16 ⟨rfl, rfl⟩
  try dsimp only [dI_i64, dI_u8, dI_u16, dI_u32, dB_bool, dS_slice, dP_ptr, dT_tup, dA_agg, dStr_str, dF_f, dC_c, dM_m, optP_some, ga0, ga1, ga2, ga3, ga4, cond_true, cond_false, chk_true, Bool.not_true, Bool.not_false, Option.isNone_none, Option.isNone_some, List.toList_toArray]
  exact Ret.mk ⟨congrArg Value.bool (by rfl), (X6.trans x8).then k14 fun i hi => (h8.typed hi).2.1⟩

theorem BasinNone_row (n : Int) (lp : Option Addr) (ln lc : Nat) (rows : List (List Value)) (kp : Option Addr) (kn kc : Nat) (keep : List Int) (w : World) (_ : -9223372036854775808 ≤ n ∧ n ≤ 9223372036854775807)
    (_ : SlIs w (fun b c => c * b ≤ 140737488351232) 32 (LineIs w (fun b c => c * b ≤ 140737488351232) (.int .i64 (.sl 1 (.int .u8 .done) .done))) lp ln lc rows) (_ : Ints .i64 w kp kn kc keep) (_ : kc * 8 ≤ 140737488351232) :
    stopcocklaw05_BasinNone.C n lp ln lc kp kn kc w (Ret fun v w' => v = .bool true ∧ Ex w w') := by
  apply stopcocklaw05_BasinNone.ok
  unfold stopcocklaw05_BasinNone.main
  refine callP.use (Fail_none n w) ?_
  rintro _ w1 ⟨rfl, rfl⟩
  try dsimp only [dI_i64, dI_u8, dI_u16, dI_u32, dB_bool, dS_slice, dP_ptr, dT_tup, dA_agg, dStr_str, dF_f, dC_c, dM_m, optP_some, ga0, ga1, ga2, ga3, ga4, cond_true, cond_false, chk_true, Bool.not_true, Bool.not_false, Option.isNone_none, Option.isNone_some, List.toList_toArray]
  refine callP.use (Crash_none kp kn kc w1) ?_
  rintro _ w3 ⟨rfl, rfl⟩
  try dsimp only [dI_i64, dI_u8, dI_u16, dI_u32, dB_bool, dS_slice, dP_ptr, dT_tup, dA_agg, dStr_str, dF_f, dC_c, dM_m, optP_some, ga0, ga1, ga2, ga3, ga4, cond_true, cond_false, chk_true, Bool.not_true, Bool.not_false, Option.isNone_none, Option.isNone_some, List.toList_toArray]
  refine callP.use (Get_none n w3) ?_
  rintro _ w5 ⟨rfl, rfl⟩
  try dsimp only [dI_i64, dI_u8, dI_u16, dI_u32, dB_bool, dS_slice, dP_ptr, dT_tup, dA_agg, dStr_str, dF_f, dC_c, dM_m, optP_some, ga0, ga1, ga2, ga3, ga4, cond_true, cond_false, chk_true, Bool.not_true, Bool.not_false, Option.isNone_none, Option.isNone_some, List.toList_toArray]
  refine callP.use (awake_spec w5) ?_
  rintro _ w7 ⟨rfl, x7⟩
  try dsimp only [dI_i64, dI_u8, dI_u16, dI_u32, dB_bool, dS_slice, dP_ptr, dT_tup, dA_agg, dStr_str, dF_f, dC_c, dM_m, optP_some, ga0, ga1, ga2, ga3, ga4, cond_true, cond_false, chk_true, Bool.not_true, Bool.not_false, Option.isNone_none, Option.isNone_some, List.toList_toArray]
  rw [cond_pos (by decide)]
  refine callP.use (Put_none lp ln lc w7) ?_
  rintro _ w9 ⟨rfl, x9⟩
  try dsimp only [dI_i64, dI_u8, dI_u16, dI_u32, dB_bool, dS_slice, dP_ptr, dT_tup, dA_agg, dStr_str, dF_f, dC_c, dM_m, optP_some, ga0, ga1, ga2, ga3, ga4, cond_true, cond_false, chk_true, Bool.not_true, Bool.not_false, Option.isNone_none, Option.isNone_some, List.toList_toArray]
  rw [cond_pos (by decide)]
  refine callP.use (Flush_none w9) ?_
  rintro _ w11 ⟨rfl, rfl⟩
  try dsimp only [dI_i64, dI_u8, dI_u16, dI_u32, dB_bool, dS_slice, dP_ptr, dT_tup, dA_agg, dStr_str, dF_f, dC_c, dM_m, optP_some, ga0, ga1, ga2, ga3, ga4, cond_true, cond_false, chk_true, Bool.not_true, Bool.not_false, Option.isNone_none, Option.isNone_some, List.toList_toArray]
  rw [cond_pos (by decide)]
  refine callP.use (Size_none w11) ?_
  rintro _ w13 ⟨rfl, rfl⟩
  try dsimp only [dI_i64, dI_u8, dI_u16, dI_u32, dB_bool, dS_slice, dP_ptr, dT_tup, dA_agg, dStr_str, dF_f, dC_c, dM_m, optP_some, ga0, ga1, ga2, ga3, ga4, cond_true, cond_false, chk_true, Bool.not_true, Bool.not_false, Option.isNone_none, Option.isNone_some, List.toList_toArray]
  rw [cond_pos (by decide)]
  refine callP.use (Loose_none w13) ?_
  rintro _ w15 ⟨rfl, rfl⟩
  try dsimp only [dI_i64, dI_u8, dI_u16, dI_u32, dB_bool, dS_slice, dP_ptr, dT_tup, dA_agg, dStr_str, dF_f, dC_c, dM_m, optP_some, ga0, ga1, ga2, ga3, ga4, cond_true, cond_false, chk_true, Bool.not_true, Bool.not_false, Option.isNone_none, Option.isNone_some, List.toList_toArray]
  exact Ret.mk ⟨rfl, x7.trans x9⟩

/-! ### BasinFails -/
theorem bools_of {w : World} {m : Nat → Nat → Prop} : ∀ {rows : List (List Value)}, (∀ r ∈ rows, LineIs w m (.bool .done) r) → ∃ bs : List Bool, rows = bs.map fun b => [Value.bool b]
  | [], _ => ⟨[], rfl⟩
  | r :: rows, h => by
    obtain ⟨b, t, rfl, ht⟩ := h r (by simp)
    have : t = [] := ht
    subst this
    obtain ⟨bs, rfl⟩ := bools_of (rows := rows) fun x hx => h x (List.mem_cons_of_mem _ hx)
    exact ⟨b :: bs, rfl⟩
theorem flat_one {α : Type} (f : α → Value) (l : List α) : (l.map fun b => [f b]).flatten = l.map f := by
  induction l with
  | nil => rfl
  | cons x r ih => simp [ih]
/-- how it stands behind k writes and flushes of n that are done -/
def Mid (n k : Int) (d : Dev) : Prop := d.now.length = 4 ∧ ((k ≤ n ∧ d.after = n - k ∧ d.off = false) ∨ (n < k ∧ d.off = true))
theorem Mid.spend {n k : Int} {d : Dev} (h : Mid n k d) (hn : 0 ≤ n) (hoff : d.off = false) : Mid n (k + 1) (spend d) ∧ ((spend d).off = true ↔ n ≤ k) := by
  obtain ⟨h4, h | h⟩ := h
  · obtain ⟨h1, h2, h3⟩ := h
    have hs := spend_same d
    unfold Mid
    rw [hs.2.1]
    unfold G.spend
    by_cases hk : k = n
    · rw [if_pos (by omega)]
      exact ⟨⟨h4, .inr ⟨by omega, rfl⟩⟩, by simp; omega⟩
    · rw [if_neg (by omega), if_pos (by omega)]
      exact ⟨⟨h4, .inl ⟨by omega, by dsimp only; omega, h3⟩⟩, by simp [h3]; omega⟩
  · rw [h.2] at hoff
    cases hoff
theorem Mid.flush {n k : Int} {d : Dev} (h : Mid n k d) (hn : 0 ≤ n) : Mid n (k + 1) (flush d).1 ∧ ((flush d).2 = 0 ∧ k < n ∨ (flush d).2 = 10 ∧ n ≤ k) ∧ (flush d).1.loose.length ≤ d.loose.length := by
  unfold G.flush
  cases hoff : d.off with
  | true =>
    rw [if_pos rfl]
    obtain ⟨h4, h | h⟩ := h
    · rw [hoff] at h; simp at h
    · exact ⟨⟨h4, .inr ⟨by omega, hoff⟩⟩, .inr ⟨rfl, by omega⟩, Nat.le_refl _⟩
  | false =>
    rw [if_neg (by decide)]
    obtain ⟨h1, h2⟩ := h.spend hn hoff
    have hs := spend_same d
    cases hf : (G.spend d).off with
    | true =>
      rw [if_pos rfl]
      exact ⟨h1, .inr ⟨rfl, h2.1 hf⟩, by rw [hs.2.2]; exact Nat.le_refl _⟩
    | false =>
      rw [if_neg (by decide)]
      have hlt : ¬ n ≤ k := fun hle => by rw [h2.2 hle] at hf; cases hf
      refine ⟨?_, .inl ⟨rfl, by omega⟩, by simp⟩
      obtain ⟨h4, h5⟩ := h1
      exact ⟨h4, h5⟩
theorem Mid.put {n k : Int} {d : Dev} (h : Mid n k d) (hn : 0 ≤ n) {i : Int} {s : List Int} (hi : 0 ≤ i ∧ i < 4) (hs : s.length = 64) : Mid n (k + 1) (Put d [(i, s)]).1 ∧ ((Put d [(i, s)]).2 = 0 ∧ k < n ∨ (Put d [(i, s)]).2 = 10 ∧ n ≤ k) ∧ (Put d [(i, s)]).1.loose.length ≤ d.loose.length + 1 := by
  have h40 := h.1
  unfold G.Put
  cases hoff : d.off with
  | true =>
    rw [if_pos rfl]
    obtain ⟨h4, h | h⟩ := h
    · rw [hoff] at h; simp at h
    · exact ⟨⟨h4, .inr ⟨by omega, hoff⟩⟩, .inr ⟨rfl, by omega⟩, by dsimp only; omega⟩
  | false =>
    rw [if_neg (by decide), if_neg (by simp [wide, hs]), if_neg (by simp [out, h40]; omega)]
    obtain ⟨h1, h2⟩ := h.spend hn hoff
    have hsm := spend_same d
    unfold putAll
    cases hf : (G.spend d).off with
    | true =>
      rw [if_pos rfl]
      exact ⟨h1, .inr ⟨rfl, h2.1 hf⟩, by rw [hsm.2.2]; omega⟩
    | false =>
      rw [if_neg (by decide)]
      have hlt : ¬ n ≤ k := fun hle => by rw [h2.2 hle] at hf; cases hf
      unfold putAll
      refine ⟨?_, .inl ⟨rfl, by omega⟩, by simp [put1, hsm.2.2]⟩
      obtain ⟨h4, h5⟩ := h1
      exact ⟨by simp only [put1, List.length_set]; exact h4, h5⟩

theorem BasinFails_row (n : Int) (p : Option Addr) (m c : Nat) (rows : List (List Value)) (w : World) (hn : 0 ≤ n ∧ n < 256) (hl : SlIs w (fun b c => c * b ≤ 140737488351232) 1 (LineIs w (fun b c => c * b ≤ 140737488351232) (.bool .done)) p m c rows) :
    stopcocklaw05_BasinFails.C n p m c w (Ret fun v w' => v = .bool true ∧ Ex w w') := by
  obtain ⟨bl, rfl⟩ := bools_of hl.each
  have hlc := hl.cells
  rw [flat_one] at hlc
  have hln : bl.length = m := by simpa using hl.size
  clear hl
  apply stopcocklaw05_BasinFails.ok
  unfold stopcocklaw05_BasinFails.main
  refine callP.use (New_spec 4 w (by omega)) ?_
  rintro _ w1 ⟨pd, D, rfl, x1, h1⟩
  have hg1 : Good (fresh 4) := fresh_good (by omega)
  try dsimp only [dI_i64, dI_u8, dI_u16, dI_u32, dB_bool, dS_slice, dP_ptr, dT_tup, dA_agg, dStr_str, dF_f, dC_c, dM_m, optP_some, ga0, ga1, ga2, ga3, ga4, cond_true, cond_false, chk_true, Bool.not_true, Bool.not_false, Option.isNone_none, Option.isNone_some, List.toList_toArray]
  refine callP.use (awake_spec w1) ?_
  rintro _ w3 ⟨rfl, x3⟩
  try dsimp only [dI_i64, dI_u8, dI_u16, dI_u32, dB_bool, dS_slice, dP_ptr, dT_tup, dA_agg, dStr_str, dF_f, dC_c, dM_m, optP_some, ga0, ga1, ga2, ga3, ga4, cond_true, cond_false, chk_true, Bool.not_true, Bool.not_false, Option.isNone_none, Option.isNone_some, List.toList_toArray]
  rw [cond_neg (by decide), w64 (x := n) (by omega) (by omega)]
  refine callP.use (Fail_spec (h1.ex x3) n) ?_
  rintro _ w5 ⟨rfl, h5, k5⟩
  try dsimp only [dI_i64, dI_u8, dI_u16, dI_u32, dB_bool, dS_slice, dP_ptr, dT_tup, dA_agg, dStr_str, dF_f, dC_c, dM_m, optP_some, ga0, ga1, ga2, ga3, ga4, cond_true, cond_false, chk_true, Bool.not_true, Bool.not_false, Option.isNone_none, Option.isNone_some, List.toList_toArray]
  have X5 : Ex w w5 := (x1.trans x3).then k5 fun i hi => ((h1.ex x3).typed hi).2.1
  have hmax : max2 n (-1) = n := by unfold max2; split <;> omega
  refine ⟨fun t0 t1p t1n t1c t5 t7 w' => n = t0 ∧ p = t1p ∧ m = t1n ∧ c = t1c ∧ t5 = some ⟨pd, 0, none⟩ ∧ 0 ≤ t7 ∧ t7 ≤ 300 ∧ Ex w w' ∧ ∃ d D, DevIs w' w.heap.size pd d D ∧ Good d ∧ Mid n t7 d ∧ (d.loose.length : Int) ≤ t7, fun t0 t1p t1n t1c t5 t7 w' => (300 - t7).toNat, ?_, ?_⟩
  · refine ⟨rfl, rfl, rfl, rfl, rfl, by omega, by omega, X5, _, D, h5, ⟨hg1.len, hg1.few, hg1.sure, hg1.now, hg1.loose, by dsimp only; rw [hmax]; omega⟩, ⟨by simp [fresh], .inl ⟨hn.1, by dsimp only; rw [hmax]; omega, rfl⟩⟩, by simp [fresh]⟩
  clear h5 k5 X5 h1 x1 x3 hg1
  clear w5 w3 w1 D
  rintro _ _ _ _ _ t w1 ⟨rfl, rfl, rfl, rfl, rfl, h0, h1, X1, d, D, hd, hg, hmid, hcnt⟩
  unfold stopcocklaw05_BasinFails.b1
  have hB1 := X1.size
  have fin : stopcocklaw05_BasinFails.k2 (some ⟨pd, 0, none⟩) w1 (Ret fun v w' => v = .bool true ∧ Ex w w') := by
    unfold stopcocklaw05_BasinFails.k2
    refine callP.use (Crash_spec (keep := []) hd hg (fun w' _ => rfl) rfl (by omega) (by omega)) ?_
    rintro _ w14 ⟨rfl, D14, h14, hg14, k14, _⟩
    try dsimp only [dI_i64, dI_u8, dI_u16, dI_u32, dB_bool, dS_slice, dP_ptr, dT_tup, dA_agg, dStr_str, dF_f, dC_c, dM_m, optP_some, ga0, ga1, ga2, ga3, ga4, cond_true, cond_false, chk_true, Bool.not_true, Bool.not_false, Option.isNone_none, Option.isNone_some, List.toList_toArray]
    have X14 : Ex w w14 := X1.then k14 fun i hi => (hd.typed hi).2.1
    refine callP.use (Flush_spec h14 hg14) ?_
    rw [flush_live (by rfl) (by rfl)]
    rintro _ w16 ⟨rfl, D16, h16, hg16, k16, _⟩
    try dsimp only [dI_i64, dI_u8, dI_u16, dI_u32, dB_bool, dS_slice, dP_ptr, dT_tup, dA_agg, dStr_str, dF_f, dC_c, dM_m, optP_some, ga0, ga1, ga2, ga3, ga4, cond_true, cond_false, chk_true, Bool.not_true, Bool.not_false, Option.isNone_none, Option.isNone_some, List.toList_toArray]
    exact Ret.mk ⟨rfl, X14.then k16 fun i hi => (h14.typed hi).2.1⟩
  refine cond_of (fun hc => ?_) (fun _ => fin)
  have hc := of_decide_eq_true hc
  refine cond_of (fun hc2 => ?_) (fun _ => fin)
  have hc2 := of_decide_eq_true hc2
  have next : ∀ (f : Int) (w7 : World) (d' : Dev), Ex w w7 → (∃ D', DevIs w7 w.heap.size pd d' D' ∧ Good d') → Mid n (t + 1) d' → (f = 0 ∧ t < n ∨ f = 10 ∧ n ≤ t) → (d'.loose.length : Int) ≤ t + 1 → ∀ t32 t33, stopcocklaw05_BasinFails.k1 n p m c (some ⟨pd, 0, none⟩) t f t32 t33 w7 (Ret fun v w' => v = .bool true ∧ Ex w w') (fun t0' t1p' t1n' t1c' t5' t7' w' => (n = t0' ∧ p = t1p' ∧ m = t1n' ∧ c = t1c' ∧ t5' = some ⟨pd, 0, none⟩ ∧ 0 ≤ t7' ∧ t7' ≤ 300 ∧ Ex w w' ∧ ∃ d D, DevIs w' w.heap.size pd d D ∧ Good d ∧ Mid n t7' d ∧ (d.loose.length : Int) ≤ t7') ∧ (300 - t7').toNat < (300 - t).toNat) := by
    intro f w7 d' X7 ⟨D', hd', hg'⟩ hmid' hf hcnt' t32 t33
    unfold stopcocklaw05_BasinFails.k1
    rw [w64 (x := n) (by omega) (by omega), w64 (x := t + 1) (by omega) (by omega)]
    rcases hf with ⟨rfl, hf⟩ | ⟨rfl, hf⟩
    · rw [cond_neg (by simp; omega), cond_neg (by decide)]
      exact ⟨⟨rfl, rfl, rfl, rfl, rfl, by omega, by omega, X7, d', D', hd', hg', hmid', hcnt'⟩, by omega⟩
    · rw [cond_neg (by simp; omega), cond_pos (by decide), cond_neg (by decide)]
      exact ⟨⟨rfl, rfl, rfl, rfl, rfl, by omega, by omega, X7, d', D', hd', hg', hmid', hcnt'⟩, by omega⟩
  obtain ⟨b, hb, _⟩ := getE (l := bl) (i := t.toNat) (by omega)
  obtain ⟨a1, ha1, hcell⟩ := (hlc.ex X1).many (j := t.toNat) (v := .bool b) (by rw [List.getElem?_map, hb]; rfl)
  rw [← Nat.mul_one t.toNat] at hcell
  refine chkd_of h0 (chkd_of hc (optP_of ha1 ⟨b, hcell, cond_of (fun _ => ?_) (fun _ => ?_)⟩))
  · refine callP.use (Flush_spec hd hg) ?_
    obtain ⟨m1, m2, m3⟩ := hmid.flush hn.1
    rintro _ w7 ⟨rfl, D7, h7, hg7, k7, _⟩
    try dsimp only [dI_i64, dI_u8, dI_u16, dI_u32, dB_bool, dS_slice, dP_ptr, dT_tup, dA_agg, dStr_str, dF_f, dC_c, dM_m, optP_some, ga0, ga1, ga2, ga3, ga4, cond_true, cond_false, chk_true, Bool.not_true, Bool.not_false, Option.isNone_none, Option.isNone_some, List.toList_toArray]
    exact next _ w7 _ (X1.then k7 fun i hi => (hd.typed hi).2.1) ⟨D7, h7, hg7⟩ m1 m2 (by omega) _ _
  · refine callP.use (fill_spec 1 w1) ?_
    rintro _ w9 ⟨p2, c2, rfl, x9, o9⟩
    try dsimp only [dI_i64, dI_u8, dI_u16, dI_u32, dB_bool, dS_slice, dP_ptr, dT_tup, dA_agg, dStr_str, dF_f, dC_c, dM_m, optP_some, ga0, ga1, ga2, ga3, ga4, cond_true, cond_false, chk_true, Bool.not_true, Bool.not_false, Option.isNone_none, Option.isNone_some, List.toList_toArray]
    rintro b3 w11 rfl rfl
    have o11 := Own.new (w := w9) [.int .i64 (Int.tmod t 4), .slice p2 64 c2] 32
    have x11 := Ex.alloc w9 (.cells #[.int .i64 (Int.tmod t 4), .slice p2 64 c2] 32)
    generalize w9.alloc (.cells #[.int .i64 (Int.tmod t 4), .slice p2 64 c2] 32) = w11 at o11 x11 ⊢
    have x111 := x9.trans x11
    have hmod : Int.tmod t 4 = t % 4 := Int.tmod_eq_emod_of_nonneg h0
    obtain ⟨m1, m2, m3⟩ := hmid.put hn.1 (i := Int.tmod t 4) (s := rep 1) (by omega) (by simp [rep])
    refine callP.use (PutOne (hd.ex x111) hg (Nat.le_trans hB1 x111.size) o11 (o9.ex x11) (rep_sec (by omega)) (by omega)) ?_
    rintro _ w12 ⟨rfl, D12, h12, hg12, k12, _⟩
    try dsimp only [dI_i64, dI_u8, dI_u16, dI_u32, dB_bool, dS_slice, dP_ptr, dT_tup, dA_agg, dStr_str, dF_f, dC_c, dM_m, optP_some, ga0, ga1, ga2, ga3, ga4, cond_true, cond_false, chk_true, Bool.not_true, Bool.not_false, Option.isNone_none, Option.isNone_some, List.toList_toArray]
    exact next _ w12 _ ((X1.trans x111).then k12 fun i hi => ((hd.ex x111).typed hi).2.1) ⟨D12, h12, hg12⟩ m1 m2 (by omega) _ _
end Go.Proofs.Yticdeknmeafjcaa.G
