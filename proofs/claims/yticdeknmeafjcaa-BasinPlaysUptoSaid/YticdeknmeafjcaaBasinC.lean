/-
  The device: Put as a whole, Flush, Crash, the simplest facts; the law BasinNone: the walk.
-/
import Derived.Test.YticdeknmeafjcaaBasinB
namespace Go.Proofs.Yticdeknmeafjcaa.G
open Go.Dec Go.RowKit
set_option linter.unusedVariables false
set_option linter.unusedSimpArgs false

theorem WtOk.step {w w1 : World} {D D1 : Nat → Prop} {x : Wt} (h : WtOk w D x) (k : Kp w w1 D) (hD : ∀ i, i < w.heap.size → D1 i → D i) : WtOk w1 D1 x := ⟨h.cells.step k hD, h.len, h.wf⟩
theorem any_false {α : Type} {P : α → Bool} {l : List α} (h : l.any P = false) {x : α} (hx : x ∈ l) : P x = false := by
  rw [List.any_eq_false] at h
  have := h x hx
  simpa using this

/-- behind a call that may change the device -/
def After (w : World) (B pd : Nat) (d : Dev) (D : Nat → Prop) (w' : World) : Prop := ∃ D', DevIs w' B pd d D' ∧ Good d ∧ Kp w w' D ∧ ∀ i, D' i → D i ∨ w.heap.size ≤ i

theorem Put_spec {w : World} {B pd : Nat} {d : Dev} {D : Nat → Prop} (h : DevIs w B pd d D) (hg : Good d) (hB : B ≤ w.heap.size) {lp : Option Addr} {n c : Nat} {ws : List Wt} (hn : ws.length = n) (hl : CellsK w D lp (ws.map Wt.cells).flatten) (hw : ∀ x ∈ ws, WtOk w D x) (hb : n ≤ 100000000) (hcnt : d.loose.length + n ≤ 1000000000) :
    basin_Basin_Put.C (some ⟨pd, 0, none⟩) lp n c w (Ret fun v w' => v = .int .i64 (Put d (ws.map Wt.plain)).2 ∧ After w B pd (Put d (ws.map Wt.plain)).1 D w') := by
  apply basin_Basin_Put.ok
  unfold basin_Basin_Put.main
  rintro b1 w1 rfl rfl
  have o1 := (Own.new (w := w) [.pointer (some ⟨pd, 0, none⟩)] 24).lower (Nat.zero_le _)
  have x1 := Ex.alloc w (.cells #[.pointer (some ⟨pd, 0, none⟩)] 24)
  generalize w.alloc (.cells #[.pointer (some ⟨pd, 0, none⟩)] 24) = w1 at o1 x1 ⊢
  have same : ∀ w', Ex w w' → After w B pd d D w' := fun w' x => ⟨D, h.ex x, hg, x.kp _, fun i hi => .inl hi⟩
  refine ⟨_, o1.at (j := 0) rfl, ?_⟩
  refine callP.use (ready_spec (h.ex x1)) ?_
  rintro _ w2 ⟨rfl, rfl⟩
  try dsimp only [dI_i64, dI_u8, dI_u16, dI_u32, dB_bool, dS_slice, dP_ptr, dT_tup, dA_agg, dStr_str, dF_f, dC_c, dM_m, optP_some, ga0, ga1, ga2, ga3, ga4, cond_true, cond_false, chk_true, Bool.not_true, Bool.not_false, Option.isNone_none, Option.isNone_some, List.toList_toArray]
  unfold Put
  cases hoff : d.off with
  | true =>
    simp only [if_true]
    rw [cond_pos (by decide)]
    exact Ret.mk ⟨rfl, same _ x1⟩
  | false =>
    simp only [Bool.false_eq_true, if_false]
    rw [cond_neg (by decide)]
    refine callP.use (has25 (D := D) hn (hl.now.ex x1) (fun x hx => (hw x hx).step (x1.kp _) fun i _ hi => hi) (by omega)) ?_
    rintro _ w4 ⟨rfl, x4⟩
    try dsimp only [dI_i64, dI_u8, dI_u16, dI_u32, dB_bool, dS_slice, dP_ptr, dT_tup, dA_agg, dStr_str, dF_f, dC_c, dM_m, optP_some, ga0, ga1, ga2, ga3, ga4, cond_true, cond_false, chk_true, Bool.not_true, Bool.not_false, Option.isNone_none, Option.isNone_some, List.toList_toArray]
    refine cond_of (fun hc => ?_) (fun hc => ?_)
    · rw [hc]
      exact Ret.mk ⟨rfl, same _ (x1.trans x4)⟩
    rw [hc]
    simp only [Bool.false_eq_true, if_false]
    have x14 := x1.trans x4
    refine callP.use (has26 (h.ex x14) (o1.ex x4) hn (hl.now.ex x14) (by omega)) ?_
    rintro _ w6 ⟨rfl, x6⟩
    try dsimp only [dI_i64, dI_u8, dI_u16, dI_u32, dB_bool, dS_slice, dP_ptr, dT_tup, dA_agg, dStr_str, dF_f, dC_c, dM_m, optP_some, ga0, ga1, ga2, ga3, ga4, cond_true, cond_false, chk_true, Bool.not_true, Bool.not_false, Option.isNone_none, Option.isNone_some, List.toList_toArray]
    refine cond_of (fun hc2 => ?_) (fun hc2 => ?_)
    · rw [hc2]
      exact Ret.mk ⟨rfl, same _ (x14.trans x6)⟩
    rw [hc2]
    simp only [Bool.false_eq_true, if_false]
    have x16 := x14.trans x6
    refine ⟨fun t2 t18p t18n t18c t19 t20 w' => t2 = w.heap.size ∧ lp = t18p ∧ n = t18n ∧ c = t18c ∧ t19 = (n : Int) ∧ 0 ≤ t20 ∧ t20 ≤ (n : Int) ∧ ∃ d' D', DevIs w' B pd d' D' ∧ Good d' ∧ Kp w w' D ∧ (∀ i, D' i → D i ∨ w.heap.size ≤ i) ∧ Own w' 0 24 1 (some ⟨w.heap.size, 0, none⟩) 1 1 [.pointer (some ⟨pd, 0, none⟩)] ∧
      putAll d' ((ws.map Wt.plain).drop t20.toNat) = putAll d (ws.map Wt.plain) ∧ (d'.loose.length : Int) ≤ (d.loose.length : Int) + t20 ∧ d'.now.length = d.now.length, fun t2 t18p t18n t18c t19 t20 w' => ((n : Int) - t20).toNat, ?_, ?_⟩
    · exact ⟨rfl, rfl, rfl, rfl, rfl, by omega, by omega, d, D, h.ex x16, hg, x16.kp _, fun i hi => .inl hi, (o1.ex x4).ex x6, rfl, by omega, rfl⟩
    rintro _ _ _ _ _ t w7 ⟨rfl, rfl, rfl, rfl, rfl, h0, h1, d', D', h7, hg7, K7, hD7, o7, hput, hcl, hnl⟩
    by_cases hc3 : t < (n : Int)
    · obtain ⟨x, hx, hxm, hdrop⟩ := getE (l := ws) (i := t.toNat) (by omega)
      have hpm : x.plain ∈ ws.map Wt.plain := List.mem_map.2 ⟨x, hxm, rfl⟩
      have hwide : x.bs.length = 64 := by
        have := any_false hc hpm
        simpa [wide, Wt.plain] using this
      have hrange : 0 ≤ x.i ∧ x.i < (d'.now.length : Int) := by
        have := any_false hc2 hpm
        unfold out Wt.plain at this
        rw [Bool.or_eq_false_iff, decide_eq_false_iff_not, decide_eq_false_iff_not] at this
        obtain ⟨r1, r2⟩ := this
        dsimp only at r1 r2
        rw [hnl]
        omega
      have hstep : ∀ i, i < w.heap.size → D' i → D i := fun i hi hd => by
        rcases hD7 i hd with hd | hd
        · exact hd
        · omega
      rw [← List.map_drop, hdrop, List.map_cons] at hput
      have hB7 : B ≤ w7.heap.size := Nat.le_trans hB K7.size
      refine Put_step (S := fun v w' => v = .int .i64 (putAll d (ws.map Wt.plain)).2 ∧ After w B pd (putAll d (ws.map Wt.plain)).1 D w') h7 hg7 hB7 o7 hn (hl.step K7 hstep) (by omega) (by omega) ⟨h0, hc3⟩ hx ((hw x hxm).step K7 hstep) hrange hwide (fun w' hf hd' k' => ?_) (fun w' D2 hf hd' k' hD2 => ?_)
      · rw [← hput]
        unfold putAll
        rw [if_pos hf]
        exact ⟨rfl, D', hd', spend_good hg7, Kp.trans K7 k' (fun _ _ h => h) hstep, hD7⟩
      · have hs := spend_same d'
        refine ⟨⟨rfl, rfl, rfl, rfl, rfl, by omega, by omega, _, D2, hd', put1_good (spend_good hg7) (by rw [hs.2.1]; exact hrange) ⟨hwide, (hw x hxm).wf⟩, Kp.trans K7 k' (fun _ _ h => h) hstep, fun i hi => ?_, off_dev h7 k' o7 (by decide) (by decide) (by decide), ?_, ?_, ?_⟩, by ((try dsimp only); omega)⟩
        · rcases hD2 i hi with hi | hi
          · exact hD7 i hi
          · exact .inr (Nat.le_trans K7.size hi)
        · rw [← hput, show (t + 1).toNat = t.toNat + 1 by omega, ← List.map_drop]
          conv => rhs; unfold putAll
          rw [if_neg (by rw [hf]; decide)]
          rfl
        · simp only [put1, hs.2.2, List.length_append, List.length_cons, List.length_nil]
          omega
        · simp only [put1, hs.2.1, List.length_set]
          exact hnl
    · unfold basin_Basin_Put.b1
      rw [condd_neg hc3]
      rw [List.drop_eq_nil_of_le (by rw [List.length_map]; omega)] at hput
      rw [← hput]
      exact Ret.mk ⟨rfl, D', h7, hg7, K7, hD7⟩
theorem Put_none (lp : Option Addr) (n c : Nat) (w : World) : basin_Basin_Put.C none lp n c w (Ret fun v w' => v = .int .i64 1 ∧ Ex w w') := by
  apply basin_Basin_Put.ok
  unfold basin_Basin_Put.main
  rintro b1 w1 rfl rfl
  have o1 := Own.new (w := w) [.pointer none] 24
  have x1 := Ex.alloc w (.cells #[.pointer none] 24)
  refine ⟨_, o1.at (j := 0) rfl, ?_⟩
  refine callP.use (ready_none _) ?_
  rintro _ w2 ⟨rfl, rfl⟩
  try dsimp only [dI_i64, dI_u8, dI_u16, dI_u32, dB_bool, dS_slice, dP_ptr, dT_tup, dA_agg, dStr_str, dF_f, dC_c, dM_m, optP_some, ga0, ga1, ga2, ga3, ga4, cond_true, cond_false, chk_true, Bool.not_true, Bool.not_false, Option.isNone_none, Option.isNone_some, List.toList_toArray]
  rw [cond_pos (by decide)]
  exact Ret.mk ⟨rfl, x1⟩

/-! ### Flush -/
def flush (d : Dev) : Dev × Int := if d.off then (d, 10) else if (spend d).off then (spend d, 10) else ({ spend d with sure := d.now, loose := [] }, 0)
theorem Flush_spec {w : World} {B pd : Nat} {d : Dev} {D : Nat → Prop} (h : DevIs w B pd d D) (hg : Good d) : basin_Basin_Flush.C (some ⟨pd, 0, none⟩) w (Ret fun v w' => v = .int .i64 (flush d).2 ∧ After w B pd (flush d).1 D w') := by
  apply basin_Basin_Flush.ok
  unfold basin_Basin_Flush.main
  refine callP.use (ready_spec h) ?_
  rintro _ w1 ⟨rfl, rfl⟩
  try dsimp only [dI_i64, dI_u8, dI_u16, dI_u32, dB_bool, dS_slice, dP_ptr, dT_tup, dA_agg, dStr_str, dF_f, dC_c, dM_m, optP_some, ga0, ga1, ga2, ga3, ga4, cond_true, cond_false, chk_true, Bool.not_true, Bool.not_false, Option.isNone_none, Option.isNone_some, List.toList_toArray]
  unfold flush
  cases hoff : d.off with
  | true =>
    simp only [if_true]
    rw [cond_pos (by decide)]
    exact Ret.mk ⟨rfl, D, h, hg, Kp.refl _ _, fun i hi => .inl hi⟩
  | false =>
    simp only [Bool.false_eq_true, if_false]
    rw [cond_neg (by decide)]
    refine callP.use (spend_spec h hg) ?_
    rintro _ w3 ⟨rfl, h3, k3⟩
    try dsimp only [dI_i64, dI_u8, dI_u16, dI_u32, dB_bool, dS_slice, dP_ptr, dT_tup, dA_agg, dStr_str, dF_f, dC_c, dM_m, optP_some, ga0, ga1, ga2, ga3, ga4, cond_true, cond_false, chk_true, Bool.not_true, Bool.not_false, Option.isNone_none, Option.isNone_some, List.toList_toArray]
    have hg' := spend_good hg
    have hs := spend_same d
    refine cond_of (fun hf => ?_) (fun hf => ?_)
    · rw [if_pos hf]
      exact Ret.mk ⟨rfl, D, h3, hg', k3, fun i hi => .inl hi⟩
    rw [if_neg (by rw [hf]; decide)]
    obtain ⟨bs, bn, pl, ml, h3, hD⟩ := h3.ex (Ex.drew w3)
    have k3 := k3.tr ((Ex.drew w3).kp _)
    generalize w3.drew = w3 at h3 k3 ⊢
    simp only [addr1]
    refine ⟨_, _, _, h3.cell.at (j := 0) rfl, _, _, _, h3.cell.at (j := 1) rfl, ?_⟩
    refine copyP_ownS h3.su h3.no.cells (secs_size hg'.now) (Nat.le_refl _) (secs_one _) (fun w5 o5 k5 => ?_)
    have hlen : (secs (spend d).sure).drop ((spend d).now.length * 64) = [] := List.drop_eq_nil_of_le (by rw [secs_size hg'.sure, hg'.len]; exact Nat.le_refl _)
    rw [hlen, List.append_nil] at o5
    have k5 : Kp w3 w5 fun i => i = bs := k5.mono fun i _ ⟨x, hx, hi⟩ => by cases hx; exact hi.symm
    have tbs : ∀ i, i = bs → Typed w3 66 i := fun i hi => hi ▸ (h3.su.typed rfl).1
    have c5 := h3.cell.away k5 66 tbs (by decide)
    have n5 := h3.no.kp k5 fun x hx hm => by cases hx; exact h3.ne hm.symm
    refine c5.put1 (j := 2) (by show 2 < 1 * 5; omega) rfl fun w6 k6 c6 => ?_
    have t62 : ∀ i, i = pd → Typed w5 62 i := fun i hi => hi ▸ (c5.typed rfl).1
    refine Ret.mk ⟨rfl, Its pd bs bn none, ⟨bs, bn, none, 0, ⟨c6, ?_, ?_, Own.nil _ _ _ _, h3.ne⟩, fun i => Iff.rfl⟩, ?_, (k3.tr (k5.mono fun i _ hi => (hD i).2 (.inr (.inl hi)))).tr (k6.mono fun i _ hi => (hD i).2 (.inl hi)), fun i hi => .inl ?_⟩
    · have := o5.away k6 62 t62 (by decide)
      rw [hs.2.1] at this ⊢
      exact this
    · exact n5.away k6 62 t62 (by decide)
    · exact ⟨by rw [hs.2.1], hg'.few, by rw [← hs.2.1]; exact hg'.now, hg'.now, fun p hp => (by cases hp), hg'.after⟩
    · rcases hi with hi | hi | hi | ⟨x, hx, _⟩
      · exact (hD i).2 (.inl hi)
      · exact (hD i).2 (.inr (.inl hi))
      · exact (hD i).2 (.inr (.inr (.inl hi)))
      · cases hx
theorem Flush_none (w : World) : basin_Basin_Flush.C none w (Ret fun v w' => v = .int .i64 1 ∧ w' = w) := by
  apply basin_Basin_Flush.ok
  unfold basin_Basin_Flush.main
  refine callP.use (ready_none w) ?_
  rintro _ w1 ⟨rfl, rfl⟩
  try dsimp only [dI_i64, dI_u8, dI_u16, dI_u32, dB_bool, dS_slice, dP_ptr, dT_tup, dA_agg, dStr_str, dF_f, dC_c, dM_m, optP_some, ga0, ga1, ga2, ga3, ga4, cond_true, cond_false, chk_true, Bool.not_true, Bool.not_false, Option.isNone_none, Option.isNone_some, List.toList_toArray]
  rw [cond_pos (by decide)]
  exact Ret.mk ⟨rfl, rfl⟩

/-! ### Crash -/
def has (keep : List Int) (k : Int) : Bool := keep.any fun x => k == x
theorem Contains_spec {w : World} {p : Option Addr} {n c : Nat} {xs : List Int} (hl : CellsO w p (xs.map (Value.int .i64))) (hn : xs.length = n) (hb : n ≤ 1000000000000000000) (k : Int) : slices_Contains_int_int.C p n c k w (Ret fun v w' => v = .bool (has xs k) ∧ Ex w w') := by
  apply slices_Contains_int_int.ok
  unfold slices_Contains_int_int.main
  have main : slices_Index_int_int.C p n c k w (Ret fun v w' => ∃ r, v = .int .i64 r ∧ decide (r ≥ 0) = has xs k ∧ Ex w w') := by
    apply slices_Index_int_int.ok
    unfold slices_Index_int_int.main
    refine ⟨fun t0p t0n t0c t1 t7 t8 w' => p = t0p ∧ n = t0n ∧ c = t0c ∧ k = t1 ∧ t7 = (n : Int) ∧ 0 ≤ t8 ∧ t8 ≤ (n : Int) ∧ Ex w w' ∧ ∀ (j : Nat) x, j < t8.toNat → xs[j]? = some x → (k == x) = false, fun t0p t0n t0c t1 t7 t8 w' => ((n : Int) - t8).toNat, ?_, ?_⟩
    · exact ⟨rfl, rfl, rfl, rfl, rfl, by omega, by omega, Ex.refl w, fun j x hj => by simp at hj⟩
    rintro _ _ _ _ _ t8 w1 ⟨rfl, rfl, rfl, rfl, rfl, h0, h1, x1, hno⟩
    unfold slices_Index_int_int.b1
    refine cond_of (fun hc => ?_) (fun hc => ?_)
    · have hc := of_decide_eq_true hc
      obtain ⟨x, hx, hxm, _⟩ := getE (l := xs) (i := t8.toNat) (by omega)
      obtain ⟨a, rfl, hcell⟩ := (hl.ex x1).many (j := t8.toNat) (v := .int .i64 x) (by rw [List.getElem?_map, hx]; rfl)
      rw [← Nat.mul_one t8.toNat] at hcell
      refine chkd_of h0 (chkd_of hc ⟨x, hcell, ?_⟩)
      refine cond_of (fun hy => ?_) (fun hy => ?_)
      · exact Ret.mk ⟨t8, rfl, by rw [has, any_at hx hy]; simpa using h0, x1⟩
      · rw [w64 (by omega) (by omega)]
        refine ⟨⟨rfl, rfl, rfl, rfl, rfl, by omega, by omega, x1, fun j y hj hjy => ?_⟩, by ((try dsimp only); omega)⟩
        by_cases hjt : j < t8.toNat
        · exact hno j y hjt hjy
        · have : j = t8.toNat := by omega
          subst this
          rw [hx] at hjy
          cases hjy
          exact hy
    · have hc := of_decide_eq_false hc
      refine Ret.mk ⟨-1, rfl, ?_, x1⟩
      rw [has, any_none fun j x hj hx => hno j x (by omega) hx]
      decide
  refine callP.use main ?_
  rintro _ w1 ⟨r, rfl, hr, x1⟩
  try dsimp only [dI_i64, dI_u8, dI_u16, dI_u32, dB_bool, dS_slice, dP_ptr, dT_tup, dA_agg, dStr_str, dF_f, dC_c, dM_m, optP_some, ga0, ga1, ga2, ga3, ga4, cond_true, cond_false, chk_true, Bool.not_true, Bool.not_false, Option.isNone_none, Option.isNone_some, List.toList_toArray]
  rw [hr]
  exact Ret.mk ⟨rfl, x1⟩
def settle (keep : List Int) : List (List Int) → List (Int × List Int) → Int → List (List Int)
  | s, [], _ => s
  | s, x :: r, k => settle keep (if has keep k then s.set x.1.toNat x.2 else s) r (k + 1)
theorem settle_nil (keep : List Int) (s : List (List Int)) (k : Int) : settle keep s [] k = s := rfl
theorem settle_cons (keep : List Int) (s : List (List Int)) (x : Int × List Int) (r : List (Int × List Int)) (k : Int) : settle keep s (x :: r) k = settle keep (if has keep k then s.set x.1.toNat x.2 else s) r (k + 1) := rfl
def crash (keep : List Int) (d : Dev) : Dev := ⟨settle keep d.sure d.loose 0, settle keep d.sure d.loose 0, [], -1, false⟩
theorem loose_rows {d : Dev} (hg : Good d) : ∀ r ∈ d.loose.map looseRow, r.length = 65 := by
  intro r hr
  obtain ⟨p, hp, rfl⟩ := List.mem_map.1 hr
  have := (hg.loose p hp).2.2.1
  simp only [looseRow, List.length_cons, u8s_len]
  omega
theorem set_sec {s : List (List Int)} (h : ∀ x ∈ s, Sec x) {i : Nat} {y : List Int} (hy : Sec y) : ∀ x ∈ s.set i y, Sec x := fun x hx => by
  rcases List.mem_or_eq_of_mem_set hx with hx | rfl
  · exact h x hx
  · exact hy
theorem Crash_spec {w : World} {B pd : Nat} {d : Dev} {D : Nat → Prop} (h : DevIs w B pd d D) (hg : Good d) {kp : Option Addr} {n c : Nat} {keep : List Int} (hk : CellsK w D kp (keep.map (Value.int .i64))) (hn : keep.length = n) (hb : n ≤ 1000000000000000000) (hcnt : d.loose.length ≤ 1000000000000) :
    basin_Basin_Crash.C (some ⟨pd, 0, none⟩) kp n c w (Ret fun v w' => v = .tuple #[] ∧ After w B pd (crash keep d) D w') := by
  apply basin_Basin_Crash.ok
  unfold basin_Basin_Crash.main
  obtain ⟨bs, bn, pl, ml, h, hD⟩ := h
  try dsimp only [dI_i64, dI_u8, dI_u16, dI_u32, dB_bool, dS_slice, dP_ptr, dT_tup, dA_agg, dStr_str, dF_f, dC_c, dM_m, optP_some, ga0, ga1, ga2, ga3, ga4, cond_true, cond_false, chk_true, Bool.not_true, Bool.not_false, Option.isNone_none, Option.isNone_some, List.toList_toArray]
  simp only [addr1]
  refine ⟨_, _, _, h.cell.at (j := 2) rfl, ?_⟩
  refine ⟨fun t0 t1p t1n t1c t11p t11n t11c t12 t13 w' => t0 = some ⟨pd, 0, none⟩ ∧ kp = t1p ∧ n = t1n ∧ c = t1c ∧ pl = t11p ∧ d.loose.length = t11n ∧ ml = t11c ∧ t12 = (d.loose.length : Int) ∧ 0 ≤ t13 ∧ t13 ≤ (d.loose.length : Int) ∧
    ∃ s, DevAt w' B pd { d with sure := s } bs bn pl ml ∧ Kp w w' D ∧ s.length = d.now.length ∧ (∀ x ∈ s, Sec x) ∧ settle keep s (d.loose.drop t13.toNat) t13 = settle keep d.sure d.loose 0, fun t0 t1p t1n t1c t11p t11n t11c t12 t13 w' => ((d.loose.length : Int) - t13).toNat, ?_, ?_⟩
  · exact ⟨rfl, rfl, rfl, rfl, rfl, rfl, rfl, rfl, by omega, by omega, d.sure, h, Kp.refl _ _, hg.len, hg.sure, rfl⟩
  rintro _ _ _ _ _ _ _ _ t w1 ⟨rfl, rfl, rfl, rfl, rfl, rfl, rfl, rfl, h0, h1, s, a1, k1, hsl, hss, hset⟩
  unfold basin_Basin_Crash.b1
  refine cond_of (fun hc => ?_) (fun hc => ?_)
  · have hc := of_decide_eq_true hc
    obtain ⟨x, hx, hxm, hdrop⟩ := getE (l := d.loose) (i := t.toNat) (by omega)
    have hgx := hg.loose x hxm
    obtain ⟨a2, ha2, hcell⟩ := (a1.lo.cells).row (rows := d.loose.map looseRow) (loose_rows hg) (by decide) (i := t.toNat) (r := looseRow x) (by rw [List.getElem?_map, hx]; rfl)
    refine chkd_of h0 (chkd_of hc (optP_of ha2 ⟨(looseRow x).toArray, by simp [looseRow, u8s_len, hgx.2.2.1], hcell, ?_⟩))
    intro b2 w2 hb2 hw2
    subst hb2
    obtain ⟨zs, o2⟩ : ∃ zs, Own w2 w1.heap.size 68 65 (some ⟨w1.heap.size, 0, none⟩) 1 1 zs := by
      rw [hw2]
      exact ⟨_, Own.alloc _ 68 65 1 (by rfl)⟩
    have x2 : Ex w1 w2 := by
      rw [hw2]
      exact Ex.alloc _ _
    clear hw2
    refine chkd_of (by simp [looseRow, u8s_len, hgx.2.2.1]) ?_
    try dsimp only [dI_i64, dI_u8, dI_u16, dI_u32, dB_bool, dS_slice, dP_ptr, dT_tup, dA_agg, dStr_str, dF_f, dC_c, dM_m, optP_some, ga0, ga1, ga2, ga3, ga4, cond_true, cond_false, chk_true, Bool.not_true, Bool.not_false, Option.isNone_none, Option.isNone_some, List.toList_toArray]
    refine o2.put (by simp [looseRow, u8s_len, hgx.2.2.1]) (row_one _ _) fun w3 k3 o3 => ?_
    have x3 : Ex w1 w3 := x2.then k3 fun i hi => by rw [hi]; exact Nat.le_refl _
    refine callP.use (Contains_spec ((hk.step k1 fun i _ hi => hi).now.ex x3) hn hb t) ?_
    rintro _ w4 ⟨rfl, x4⟩
    try dsimp only [dI_i64, dI_u8, dI_u16, dI_u32, dB_bool, dS_slice, dP_ptr, dT_tup, dA_agg, dStr_str, dF_f, dC_c, dM_m, optP_some, ga0, ga1, ga2, ga3, ga4, cond_true, cond_false, chk_true, Bool.not_true, Bool.not_false, Option.isNone_none, Option.isNone_some, List.toList_toArray]
    rw [hdrop] at hset
    rw [settle_cons] at hset
    refine cond_of (fun hh => ?_) (fun hh => ?_)
    · rw [hh, if_pos rfl] at hset
      have X4 := (x3.trans x4).trans (Ex.drew w4)
      have a4 := a1.ex X4
      have o4 := (o3.ex x4).ex (Ex.drew w4)
      have K4 := k1.tr (X4.kp _)
      generalize w4.drew = w4 at X4 a4 o4 K4 ⊢
      have hc1 : CellsAt w4 (⟨w1.heap.size, 1, none⟩ : Addr) (u8s x.2) := by
        have := CellsAt.drop (a := ⟨w1.heap.size, 0, none⟩) o4.cells 1
        rwa [addr1] at this
      refine ⟨_, _, _, a4.cell.at (j := 0) rfl, x.1, o4.at (j := 0) rfl, (u8s x.2).toArray, by simp [u8s_len, hgx.2.2.1], hc1, chkd_of hgx.1 (chkd_of hgx.2.1 ?_)⟩
      try dsimp only [dI_i64, dI_u8, dI_u16, dI_u32, dB_bool, dS_slice, dP_ptr, dT_tup, dA_agg, dStr_str, dF_f, dC_c, dM_m, optP_some, ga0, ga1, ga2, ga3, ga4, cond_true, cond_false, chk_true, Bool.not_true, Bool.not_false, Option.isNone_none, Option.isNone_some, List.toList_toArray]
      refine chkd_of (by simp [u8s_len, hgx.2.2.1]) ?_
      obtain ⟨q1, q2, q3⟩ := a4.su.writes (x.1.toNat * 64) (u8s x.2) (by rw [u8s_len, hgx.2.2.1]; dsimp only; omega) (u8s_one _)
      refine ⟨q1, fun w5 hw5 => ?_⟩
      have e5 : setO w4 (some ⟨bs, 0, none⟩) (x.1.toNat * 64) (u8s x.2) = w5 := by
        rw [hw5, add_block, add_off]
        rfl
      rw [e5, secs_set hss (by omega) hgx.2.2] at q2
      rw [e5] at q3
      have q3 : Kp w4 w5 fun i => i = bs := q3.mono fun i _ ⟨x, hx, hi⟩ => by cases hx; exact hi.symm
      have tbs : ∀ i, i = bs → Typed w4 66 i := fun i hi => hi ▸ (a4.su.typed rfl).1
      rw [w64 (by omega) (by omega)]
      refine ⟨⟨rfl, rfl, rfl, rfl, rfl, rfl, rfl, rfl, by omega, by omega, s.set x.1.toNat x.2, ⟨a4.cell.away q3 66 tbs (by decide), q2, a4.no.kp q3 fun y hy hm => by cases hy; exact a4.ne hm.symm, a4.lo.away q3 66 tbs (by decide), a4.ne⟩, K4.tr (q3.mono fun i _ hi => (hD i).2 (.inr (.inl hi))), by rw [List.length_set]; exact hsl, set_sec hss hgx.2.2, ?_⟩, by omega⟩
      rw [show (t + 1).toNat = t.toNat + 1 by omega]
      exact hset
    · rw [hh, if_neg (by decide)] at hset
      have X4 := x3.trans x4
      rw [w64 (by omega) (by omega)]
      refine ⟨⟨rfl, rfl, rfl, rfl, rfl, rfl, rfl, rfl, by omega, by omega, s, a1.ex X4, k1.tr (X4.kp _), hsl, hss, ?_⟩, by omega⟩
      rw [show (t + 1).toNat = t.toNat + 1 by omega]
      exact hset
  · have hc := of_decide_eq_false hc
    rw [List.drop_eq_nil_of_le (by omega)] at hset
    rw [settle_nil] at hset
    unfold basin_Basin_Crash.k1
    have a2 := a1.ex (Ex.drew w1)
    have k2 := k1.tr ((Ex.drew w1).kp _)
    generalize w1.drew = w2 at a2 k2 ⊢
    try dsimp only [dI_i64, dI_u8, dI_u16, dI_u32, dB_bool, dS_slice, dP_ptr, dT_tup, dA_agg, dStr_str, dF_f, dC_c, dM_m, optP_some, ga0, ga1, ga2, ga3, ga4, cond_true, cond_false, chk_true, Bool.not_true, Bool.not_false, Option.isNone_none, Option.isNone_some, List.toList_toArray]
    simp only [addr1]
    refine ⟨_, _, _, a2.cell.at (j := 1) rfl, _, _, _, a2.cell.at (j := 0) rfl, ?_⟩
    refine copyP_ownS a2.no a2.su.cells (by rw [secs_size hss, hsl]) (Nat.le_refl _) (secs_one _) (fun w6 o6 k6 => ?_)
    have hlen : (secs d.now).drop (d.now.length * 64) = [] := List.drop_eq_nil_of_le (by rw [secs_size hg.now]; exact Nat.le_refl _)
    rw [hlen, List.append_nil] at o6
    have k6 : Kp w2 w6 fun i => i = bn := k6.mono fun i _ ⟨x, hx, hi⟩ => by cases hx; exact hi.symm
    have tbn : ∀ i, i = bn → Typed w2 66 i := fun i hi => hi ▸ (a2.no.typed rfl).1
    have c6 := a2.cell.away k6 66 tbn (by decide)
    have s6 := a2.su.kp k6 fun x hx hm => by cases hx; exact a2.ne hm
    refine c6.put1 (j := 2) (by show 2 < 1 * 5; omega) rfl fun w7 k7 c7 => ?_
    refine c7.put1 (j := 3) (by show 3 < 1 * 5; omega) rfl fun w8 k8 c8 => ?_
    refine c8.put1 (j := 4) (by show 4 < 1 * 5; omega) rfl fun w9 k9 c9 => ?_
    have K9 : Kp w6 w9 fun i => i = pd := (k7.tr k8).tr k9
    have t62 : ∀ i, i = pd → Typed w6 62 i := fun i hi => hi ▸ (c6.typed rfl).1
    rw [hset] at o6 s6 hsl hss
    refine Ret.mk ⟨rfl, Its pd bs bn none, ⟨bs, bn, none, 0, ⟨?_, ?_, ?_, Own.nil _ _ _ _, a2.ne⟩, fun i => Iff.rfl⟩, ⟨rfl, ?_, hss, hss, fun p hp => (by cases hp), (by simp [crash])⟩, (k2.tr (k6.mono fun i _ hi => (hD i).2 (.inr (.inr (.inl hi))))).tr (K9.mono fun i _ hi => (hD i).2 (.inl hi)), fun i hi => .inl ?_⟩
    · show Own w9 B 62 5 _ 1 1 [.slice _ (settle keep d.sure d.loose 0).length (settle keep d.sure d.loose 0).length, .slice _ (settle keep d.sure d.loose 0).length (settle keep d.sure d.loose 0).length, _, _, _]
      rw [hsl]
      exact c9
    · show Own w9 B 66 64 _ (settle keep d.sure d.loose 0).length (settle keep d.sure d.loose 0).length _
      rw [hsl]
      exact s6.away K9 62 t62 (by decide)
    · show Own w9 B 66 64 _ (settle keep d.sure d.loose 0).length (settle keep d.sure d.loose 0).length _
      rw [hsl]
      exact o6.away K9 62 t62 (by decide)
    · show (settle keep d.sure d.loose 0).length ≤ 424
      rw [hsl]
      exact hg.few
    · rcases hi with hi | hi | hi | ⟨x, hx, _⟩
      · exact (hD i).2 (.inl hi)
      · exact (hD i).2 (.inr (.inl hi))
      · exact (hD i).2 (.inr (.inr (.inl hi)))
      · cases hx
theorem Crash_none (kp : Option Addr) (n c : Nat) (w : World) : basin_Basin_Crash.C none kp n c w (Ret fun v w' => v = .tuple #[] ∧ w' = w) := by
  apply basin_Basin_Crash.ok
  unfold basin_Basin_Crash.main
  rw [cond_pos (by rfl)]
  exact Ret.mk ⟨rfl, rfl⟩
end Go.Proofs.Yticdeknmeafjcaa.G
