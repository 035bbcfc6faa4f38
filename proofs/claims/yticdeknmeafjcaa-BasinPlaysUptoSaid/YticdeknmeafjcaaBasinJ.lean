/-
  The plain device: Flush, Crash, Get, Put.
-/
import Derived.Test.YticdeknmeafjcaaBasinI
namespace Go.Proofs.Yticdeknmeafjcaa.G
open Go.Dec Go.RowKit
set_option linter.unusedVariables false
set_option linter.unusedSimpArgs false

/-- what is read is the last that was written -/
def Fresh (d : Dev) : Prop := d.now = setAll d.sure d.loose
theorem setAll_push (s : List (List Int)) (l : List (Int × List Int)) (p : Int × List Int) : setAll s (l ++ [p]) = (setAll s l).set p.1.toNat p.2 := by simp [setAll]
theorem setAll_len (l : List (Int × List Int)) : ∀ (s : List (List Int)), (setAll s l).length = s.length := by
  induction l with
  | nil => intro s; rfl
  | cons x r ih => intro s; show (setAll (s.set x.1.toNat x.2) r).length = _; rw [ih, List.length_set]

theorem FlushR_spec {w : World} {B pr : Nat} {d : Dev} {D : Nat → Prop} (h : Ref w B pr d D) (hg : Good d) (hf : Fresh d) (hcnt : d.loose.length ≤ 1000000000000) : stopcockref05_Basin_Flush.C (some ⟨pr, 0, none⟩) w (Ret fun v w' => v = .int .i64 (flush d).2 ∧ AfterR w B pr (flush d).1 D w') := by
  apply stopcockref05_Basin_Flush.ok
  unfold stopcockref05_Basin_Flush.main
  have h0 := h
  obtain ⟨left, ps, pl, cs, cl, _, ha, _⟩ := h0
  try dsimp only [dI_i64, dI_u8, dI_u16, dI_u32, dB_bool, dS_slice, dP_ptr, dT_tup, dA_agg, dStr_str, dF_f, dC_c, dM_m, optP_some, ga0, ga1, ga2, ga3, ga4, cond_true, cond_false, chk_true, Bool.not_true, Bool.not_false, Option.isNone_none, Option.isNone_some, List.toList_toArray]
  simp only [addr1]
  unfold flush
  refine ⟨_, ha.cell.at (j := 3) rfl, cond_of (fun hoff => ?_) (fun hoff => ?_)⟩
  · rw [if_pos hoff]
    exact Ret.mk ⟨rfl, D, h, Kp.refl _ _, fun i hi => .inl hi⟩
  rw [if_neg (by rw [hoff]; decide)]
  clear ha
  refine callP.use (spendR_spec h) ?_
  rintro _ w1 ⟨rfl, h1, k1⟩
  try dsimp only [dI_i64, dI_u8, dI_u16, dI_u32, dB_bool, dS_slice, dP_ptr, dT_tup, dA_agg, dStr_str, dF_f, dC_c, dM_m, optP_some, ga0, ga1, ga2, ga3, ga4, cond_true, cond_false, chk_true, Bool.not_true, Bool.not_false, Option.isNone_none, Option.isNone_some, List.toList_toArray]
  refine cond_of (fun hs => ?_) (fun hs => ?_)
  · rw [if_pos hs]
    exact Ret.mk ⟨rfl, D, h1, k1, fun i hi => .inl hi⟩
  rw [if_neg (by rw [hs]; decide)]
  have hsm := spend_same d
  have hg' := spend_good hg
  obtain ⟨left, ps, pl, cs, cl, hl, h1, hD⟩ := h1
  refine callP.use (settleR_spec h1 hg' hD (all := true) (kp := none) (keep := []) (fun w' _ => rfl) rfl (by simp) (by rw [hsm.2.2]; exact hcnt) (nums (spend d).loose.length) (fun j hj => by
    have := has_nums hj
    rw [Int.zero_add] at this
    rw [this]; rfl)) ?_
  rintro _ w2 ⟨rfl, h2, k2⟩
  try dsimp only [dI_i64, dI_u8, dI_u16, dI_u32, dB_bool, dS_slice, dP_ptr, dT_tup, dA_agg, dStr_str, dF_f, dC_c, dM_m, optP_some, ga0, ga1, ga2, ga3, ga4, cond_true, cond_false, chk_true, Bool.not_true, Bool.not_false, Option.isNone_none, Option.isNone_some, List.toList_toArray]
  have e : settle (nums (spend d).loose.length) (spend d).sure (spend d).loose 0 = d.now := by
    rw [settle_all _ _ _ _ fun j hj => has_nums hj, hsm.1, hsm.2.2]
    exact hf.symm
  rw [e] at h2
  refine Ret.mk ⟨rfl, RIts pr ps none, ⟨left, ps, none, cs, 0, hl, h2, fun i => Iff.rfl⟩, k1.tr k2, fun i hi => .inl ?_⟩
  rcases hi with hi | hi | ⟨x, hx, _⟩
  · exact (hD i).2 (.inl hi)
  · exact (hD i).2 (.inr (.inl hi))
  · cases hx

theorem CrashR_spec {w : World} {B pr : Nat} {d : Dev} {D : Nat → Prop} (h : Ref w B pr d D) (hg : Good d) (hcnt : d.loose.length ≤ 1000000000000) {kp : Option Addr} {n c : Nat} {keep : List Int} (hk : CellsK w D kp (keep.map (Value.int .i64))) (hn : keep.length = n) (hb : n ≤ 1000000000000000000) : stopcockref05_Basin_Crash.C (some ⟨pr, 0, none⟩) kp n c w (Ret fun v w' => v = .tuple #[] ∧ AfterR w B pr (crash keep d) D w') := by
  apply stopcockref05_Basin_Crash.ok
  unfold stopcockref05_Basin_Crash.main
  obtain ⟨left, ps, pl, cs, cl, hl, h, hD⟩ := h
  refine callP.use (settleR_spec h hg hD (all := false) hk hn hb hcnt keep (fun j hj => rfl)) ?_
  rintro _ w2 ⟨rfl, h2, k2⟩
  try dsimp only [dI_i64, dI_u8, dI_u16, dI_u32, dB_bool, dS_slice, dP_ptr, dT_tup, dA_agg, dStr_str, dF_f, dC_c, dM_m, optP_some, ga0, ga1, ga2, ga3, ga4, cond_true, cond_false, chk_true, Bool.not_true, Bool.not_false, Option.isNone_none, Option.isNone_some, List.toList_toArray]
  simp only [addr1]
  have t54 : ∀ (w : World) i, Own w B 54 4 (some ⟨pr, 0, none⟩) 1 1 [] → i = pr → Typed w 54 i := fun w i o hi => hi ▸ (o.typed rfl).1
  refine h2.cell.put1 (j := 3) (by show 3 < 1 * 4; omega) rfl fun w3 k3 o3 => ?_
  refine o3.put1 (j := 2) (by show 2 < 1 * 4; omega) rfl fun w4 k4 o4 => ?_
  have k34 : Kp w2 w4 fun i => i = pr := k3.tr k4
  refine Ret.mk ⟨rfl, RIts pr ps none, ⟨-1, ps, none, cs, 0, ⟨rfl, by omega⟩, h2.field k34 (crash keep d) rfl rfl rfl o4, fun i => Iff.rfl⟩, k2.tr (k34.mono fun i _ hi => (hD i).2 (.inl hi)), fun i hi => .inl ?_⟩
  rcases hi with hi | hi | ⟨x, hx, _⟩
  · exact (hD i).2 (.inl hi)
  · exact (hD i).2 (.inr (.inl hi))
  · cases hx

theorem GetR_spec {w : World} {B pr : Nat} {d : Dev} {D : Nat → Prop} (h : Ref w B pr d D) (hg : Good d) (hf : Fresh d) (hcnt : d.loose.length ≤ 1000000000000) (i : Int) : stopcockref05_Basin_Get.C (some ⟨pr, 0, none⟩) i w (Ret fun v w' => w' = w ∧ ∃ s, v = .tuple #[str s, .int .i64 (got d i)] ∧ ((got d i ≠ 0 ∧ s = []) ∨ (got d i = 0 ∧ d.now[i.toNat]? = some s))) := by
  apply stopcockref05_Basin_Get.ok
  unfold stopcockref05_Basin_Get.main
  obtain ⟨left, ps, pl, cs, cl, _, h, _⟩ := h
  have hlen := hg.len
  try dsimp only [dI_i64, dI_u8, dI_u16, dI_u32, dB_bool, dS_slice, dP_ptr, dT_tup, dA_agg, dStr_str, dF_f, dC_c, dM_m, optP_some, ga0, ga1, ga2, ga3, ga4, cond_true, cond_false, chk_true, Bool.not_true, Bool.not_false, Option.isNone_none, Option.isNone_some, List.toList_toArray]
  simp only [addr1]
  refine ⟨_, h.cell.at (j := 3) rfl, cond_of (fun hoff => ?_) (fun hoff => ?_)⟩
  · have e : got d i = 10 := by unfold got; rw [if_pos hoff]
    exact Ret.mk ⟨rfl, [], by rw [e]; rfl, .inl ⟨by omega, rfl⟩⟩
  refine cond_of (fun hc => ?_) (fun hc => ?_)
  · have hc := of_decide_eq_true hc
    have e : got d i = 5 := by unfold got; rw [if_neg (by rw [hoff]; decide), if_pos (.inl hc)]
    exact Ret.mk ⟨rfl, [], by rw [e]; rfl, .inl ⟨by omega, rfl⟩⟩
  have hc := of_decide_eq_false hc
  refine ⟨_, _, _, h.cell.at (j := 0) rfl, cond_of (fun hc2 => ?_) (fun hc2 => ?_)⟩
  · have hc2 := of_decide_eq_true hc2
    have e : got d i = 5 := by unfold got; rw [if_neg (by rw [hoff]; decide), if_pos (.inr (by omega))]
    exact Ret.mk ⟨rfl, [], by rw [e]; rfl, .inl ⟨by omega, rfl⟩⟩
  have hc2 := of_decide_eq_false hc2
  have e : got d i = 0 := by unfold got; rw [if_neg (by rw [hoff]; decide), if_neg (by omega)]
  rw [e]
  refine ⟨_, _, _, h.cell.at (j := 1) rfl, ?_⟩
  rw [w64 (by omega) (by omega)]
  refine ⟨fun t0 t1 t6 w' => t0 = some ⟨pr, 0, none⟩ ∧ i = t1 ∧ -1 ≤ t6 ∧ t6 < (d.loose.length : Int) ∧ w = w' ∧ (setAll d.sure (d.loose.take (t6 + 1).toNat))[i.toNat]? = d.now[i.toNat]?, fun t0 t1 t6 w' => (t6 + 1).toNat, ?_, ?_⟩
  · refine ⟨by trivial, by trivial, by omega, by omega, by trivial, ?_⟩
    rw [List.take_of_length_le (by omega)]
    rw [hf]
  rintro _ _ t w1 ⟨rfl, rfl, h0, h1, rfl, hval⟩
  unfold stopcockref05_Basin_Get.b1
  try dsimp only [dI_i64, dI_u8, dI_u16, dI_u32, dB_bool, dS_slice, dP_ptr, dT_tup, dA_agg, dStr_str, dF_f, dC_c, dM_m, optP_some, ga0, ga1, ga2, ga3, ga4, cond_true, cond_false, chk_true, Bool.not_true, Bool.not_false, Option.isNone_none, Option.isNone_some, List.toList_toArray]
  simp only [addr1]
  refine cond_of (fun hd => ?_) (fun hd => ?_)
  · have hd := of_decide_eq_true hd
    obtain ⟨x, hx, hxm, _⟩ := getE (l := d.loose) (i := t.toNat) (by omega)
    have hgx := hg.loose x hxm
    obtain ⟨a, ha, hrow⟩ := (h.lo.cells).row (rows := d.loose.map textRow) (text_rows _) (by decide) (i := t.toNat) (r := textRow x) (by rw [List.getElem?_map, hx]; rfl)
    have hr0 := hrow 0 _ rfl
    have hr1 := hrow 1 _ rfl
    rw [add_add, Nat.add_zero] at hr0
    have htk : d.loose.take (t + 1).toNat = d.loose.take t.toNat ++ [x] := by
      rw [show (t + 1).toNat = t.toNat + 1 by omega, List.take_add_one, hx]
      rfl
    rw [htk, setAll_push] at hval
    refine ⟨_, _, _, h.cell.at (j := 1) rfl, chkd_of (by omega) (chkd_of (by omega) (optP_of ha ⟨_, hr0, cond_of (fun he => ?_) (fun he => ?_)⟩))⟩
    · have he : x.1 = i := by simpa using he
      refine ⟨_, _, _, h.cell.at (j := 1) rfl, chkd_of (by omega) (chkd_of (by omega) (optP_of ha ⟨_, hr1, Ret.mk ⟨by trivial, x.2, by trivial, .inr ⟨by trivial, ?_⟩⟩⟩))⟩
      rw [← hval, he, List.getElem?_set_self (by rw [setAll_len]; omega)]
    · have he : ¬ x.1 = i := by simpa using he
      rw [w64 (by omega) (by omega)]
      refine ⟨⟨by trivial, by trivial, by omega, by omega, by trivial, ?_⟩, by ((try dsimp only); omega)⟩
      rw [show (t - 1 + 1).toNat = t.toNat by omega, ← hval, List.getElem?_set_ne (by omega)]
  · have hd := of_decide_eq_false hd
    have ht : t = -1 := by omega
    subst ht
    unfold stopcockref05_Basin_Get.k1
    try dsimp only [dI_i64, dI_u8, dI_u16, dI_u32, dB_bool, dS_slice, dP_ptr, dT_tup, dA_agg, dStr_str, dF_f, dC_c, dM_m, optP_some, ga0, ga1, ga2, ga3, ga4, cond_true, cond_false, chk_true, Bool.not_true, Bool.not_false, Option.isNone_none, Option.isNone_some, List.toList_toArray]
    have hc0 := h.cell.at (j := 0) rfl
    obtain ⟨x, hx, _⟩ := getE (l := d.sure) (i := i.toNat) (by omega)
    obtain ⟨a, ha, hcell⟩ := (h.su.cells).many (j := i.toNat) (v := str x) (by unfold strs; rw [List.getElem?_map, hx]; rfl)
    rw [← Nat.mul_one i.toNat] at hcell
    refine ⟨_, _, _, hc0, chkd_of (by omega) (chkd_of (by omega) (optP_of ha ⟨_, hcell, Ret.mk ⟨by trivial, x, by trivial, .inr ⟨by trivial, ?_⟩⟩⟩))⟩
    rw [← hval]
    exact hx

theorem PutR_spec {w : World} {B pr : Nat} {d : Dev} {D : Nat → Prop} (h : Ref w B pr d D) (hg : Good d) (hB : B ≤ w.heap.size) {lp : Option Addr} {n c : Nat} {ws : List Wt} (hn : ws.length = n) (hl : CellsK w D lp (ws.map Wt.cells).flatten) (hw : ∀ x ∈ ws, WtOk w D x) (hb : n ≤ 100000000) (hcnt : d.loose.length + n ≤ 1000000000) :
    stopcockref05_Basin_Put.C (some ⟨pr, 0, none⟩) lp n c w (Ret fun v w' => v = .int .i64 (Put d (ws.map Wt.plain)).2 ∧ AfterR w B pr (Put d (ws.map Wt.plain)).1 D w') := by
  apply stopcockref05_Basin_Put.ok
  unfold stopcockref05_Basin_Put.main
  have hlen := hg.len
  have same : ∀ w', Ex w w' → AfterR w B pr d D w' := fun w' x => ⟨D, h.ex x, x.kp _, fun i hi => .inl hi⟩
  have h0 := h
  obtain ⟨left, ps, pl, cs, cl, _, ha, _⟩ := h0
  try dsimp only [dI_i64, dI_u8, dI_u16, dI_u32, dB_bool, dS_slice, dP_ptr, dT_tup, dA_agg, dStr_str, dF_f, dC_c, dM_m, optP_some, ga0, ga1, ga2, ga3, ga4, cond_true, cond_false, chk_true, Bool.not_true, Bool.not_false, Option.isNone_none, Option.isNone_some, List.toList_toArray]
  simp only [addr1]
  unfold Put
  refine ⟨_, ha.cell.at (j := 3) rfl, cond_of (fun hoff => ?_) (fun hoff => ?_)⟩
  · rw [if_pos hoff]
    exact Ret.mk ⟨rfl, same _ (Ex.refl _)⟩
  rw [if_neg (by rw [hoff]; decide)]
  refine ⟨fun t0 q m k t5 w' => t0 = some ⟨pr, 0, none⟩ ∧ lp = q ∧ n = m ∧ c = k ∧ 0 ≤ t5 ∧ t5 ≤ (n : Int) ∧ w = w' ∧ ∀ (j : Nat) x, j < t5.toNat → (ws.map Wt.plain)[j]? = some x → wide x = false, fun t0 q m k t5 w' => ((n : Int) - t5).toNat, ?_, ?_⟩
  · exact ⟨rfl, rfl, rfl, rfl, by omega, by omega, rfl, fun j x hj => by simp at hj⟩
  rintro _ _ _ _ t w1 ⟨rfl, rfl, rfl, rfl, h0, h1, rfl, hno⟩
  unfold stopcockref05_Basin_Put.b1
  refine cond_of (fun hc => ?_) (fun hc => ?_)
  · have hc := of_decide_eq_true hc
    obtain ⟨x, hx, hxm, _⟩ := getE (l := ws) (i := t.toNat) (by omega)
    have hpl : (ws.map Wt.plain)[t.toNat]? = some x.plain := by rw [List.getElem?_map, hx]; rfl
    obtain ⟨a, ha, hrow⟩ := row2 hl.now hx
    have hr1 := hrow 1 _ rfl
    have hwx := (hw x hxm).len
    refine chkd_of h0 (chkd_of hc (optP_of ha ⟨_, _, _, hr1, cond_of (fun he => ?_) (fun he => ?_)⟩))
    · have he : ¬ (x.n : Int) = 64 := by simpa using he
      have he : ¬ x.n = 64 := by omega
      rw [if_pos (any_at hpl (by simp [wide, Wt.plain, hwx, he]))]
      exact Ret.mk ⟨rfl, same _ (Ex.refl _)⟩
    · rw [w64 (by omega) (by omega)]
      refine ⟨⟨rfl, rfl, rfl, rfl, by omega, by omega, rfl, fun j y hj hjy => ?_⟩, by ((try dsimp only); omega)⟩
      by_cases hjt : j < t.toNat
      · exact hno j y hjt hjy
      · have : j = t.toNat := by omega
        subst this
        rw [hpl] at hjy
        cases hjy
        have he : (x.n : Int) = 64 := by simpa using he
        have he : x.n = 64 := by omega
        simp [wide, Wt.plain, hwx, he]
  have hc := of_decide_eq_false hc
  have hwide : (ws.map Wt.plain).any wide = false := any_none fun j x hj hx => hno j x (by rw [List.length_map] at hj; omega) hx
  rw [if_neg (by rw [hwide]; decide)]
  clear hno h0 h1
  unfold stopcockref05_Basin_Put.k1
  refine ⟨fun t0 q m k t5 w' => t0 = some ⟨pr, 0, none⟩ ∧ lp = q ∧ n = m ∧ c = k ∧ 0 ≤ t5 ∧ t5 ≤ (n : Int) ∧ Ex w w' ∧ ∀ (j : Nat) x, j < t5.toNat → (ws.map Wt.plain)[j]? = some x → out d.now.length x = false, fun t0 q m k t5 w' => ((n : Int) - t5).toNat, ?_, ?_⟩
  · exact ⟨rfl, rfl, rfl, rfl, by omega, by omega, Ex.refl _, fun j x hj => by simp at hj⟩
  rintro _ _ _ _ t w1 ⟨rfl, rfl, rfl, rfl, h0, h1, x1, hno⟩
  unfold stopcockref05_Basin_Put.b2
  refine cond_of (fun hc => ?_) (fun hc => ?_)
  · have hc := of_decide_eq_true hc
    obtain ⟨x, hx, hxm, _⟩ := getE (l := ws) (i := t.toNat) (by omega)
    have hpl : (ws.map Wt.plain)[t.toNat]? = some x.plain := by rw [List.getElem?_map, hx]; rfl
    obtain ⟨a, haa, hrow⟩ := row2 (hl w1 (x1.kp _)) hx
    have hr0 := hrow 0 _ rfl
    rw [add_add, Nat.add_zero] at hr0
    have ha1 := ha.ex x1
    refine chkd_of h0 (chkd_of hc (optP_of haa ⟨_, hr0, cond_of (fun he k1 => ?_) (fun he => ?_)⟩))
    · rw [if_pos (any_at hpl (by unfold out Wt.plain; rw [he]; rfl))]
      exact Ret.mk ⟨rfl, same _ (x1.trans (Ex.drewN _ _))⟩
    refine chkd_of h0 (chkd_of hc (optP_of haa ⟨_, hr0, optP_of rfl ⟨_, _, _, ha1.cell.at (j := 0) rfl, fun k1 => cond_of (fun he2 => ?_) (fun he2 => ?_)⟩⟩))
    · rw [hlen] at he2
      rw [if_pos (any_at hpl (by unfold out Wt.plain; rw [he2]; simp))]
      exact Ret.mk ⟨rfl, same _ (x1.trans (Ex.drewN _ _))⟩
    · rw [hlen] at he2
      rw [w64 (by omega) (by omega)]
      refine ⟨⟨rfl, rfl, rfl, rfl, by omega, by omega, x1.trans (Ex.drewN _ _), fun j y hj hjy => ?_⟩, by ((try dsimp only); omega)⟩
      by_cases hjt : j < t.toNat
      · exact hno j y hjt hjy
      · have : j = t.toNat := by omega
        subst this
        rw [hpl] at hjy
        cases hjy
        unfold out Wt.plain
        rw [he, he2]
        rfl
  have hc := of_decide_eq_false hc
  have hout : (ws.map Wt.plain).any (out d.now.length) = false := any_none fun j x hj hx => hno j x (by rw [List.length_map] at hj; omega) hx
  rw [if_neg (by rw [hout]; decide)]
  clear hno h0 h1 ha
  unfold stopcockref05_Basin_Put.k2
  refine ⟨fun t0 q m k t5 w' => t0 = some ⟨pr, 0, none⟩ ∧ lp = q ∧ n = m ∧ c = k ∧ 0 ≤ t5 ∧ t5 ≤ (n : Int) ∧ ∃ d' D', Ref w' B pr d' D' ∧ Good d' ∧ Kp w w' D ∧ (∀ i, D' i → D i ∨ w.heap.size ≤ i) ∧
    putAll d' ((ws.map Wt.plain).drop t5.toNat) = putAll d (ws.map Wt.plain) ∧ (d'.loose.length : Int) ≤ (d.loose.length : Int) + t5 ∧ d'.now.length = d.now.length, fun t0 q m k t5 w' => ((n : Int) - t5).toNat, ?_, ?_⟩
  · exact ⟨rfl, rfl, rfl, rfl, by omega, by omega, d, D, h.ex x1, hg, x1.kp _, fun i hi => .inl hi, rfl, by omega, rfl⟩
  clear x1
  rintro _ _ _ _ t w2 ⟨rfl, rfl, rfl, rfl, h0, h1, d', D', h2, hg2, K2, hD2, hput, hcl, hnl⟩
  unfold stopcockref05_Basin_Put.b3
  refine cond_of (fun hc => ?_) (fun hc => ?_)
  · have hc := of_decide_eq_true hc
    obtain ⟨x, hx, hxm, hdrop⟩ := getE (l := ws) (i := t.toNat) (by omega)
    have hpm : x.plain ∈ ws.map Wt.plain := List.mem_map.2 ⟨x, hxm, rfl⟩
    have hx64 : x.bs.length = 64 := by
      have := any_false hwide hpm
      simpa [wide, Wt.plain] using this
    have hrange : 0 ≤ x.i ∧ x.i < (d'.now.length : Int) := by
      have := any_false hout hpm
      unfold out Wt.plain at this
      rw [Bool.or_eq_false_iff, decide_eq_false_iff_not, decide_eq_false_iff_not] at this
      obtain ⟨r1, r2⟩ := this
      dsimp only at r1 r2
      rw [hnl]
      omega
    have hstep : ∀ i, i < w.heap.size → D' i → D i := fun i hi hd => by
      rcases hD2 i hd with hd | hd
      · exact hd
      · omega
    rw [← List.map_drop, hdrop, List.map_cons] at hput
    have hsm := spend_same d'
    refine callP.use (spendR_spec h2) ?_
    rintro _ w3 ⟨rfl, h3, k3⟩
    try dsimp only [dI_i64, dI_u8, dI_u16, dI_u32, dB_bool, dS_slice, dP_ptr, dT_tup, dA_agg, dStr_str, dF_f, dC_c, dM_m, optP_some, ga0, ga1, ga2, ga3, ga4, cond_true, cond_false, chk_true, Bool.not_true, Bool.not_false, Option.isNone_none, Option.isNone_some, List.toList_toArray]
    have K3 : Kp w w3 D := Kp.trans K2 k3 (fun _ _ h => h) hstep
    refine cond_of (fun hf => ?_) (fun hf => ?_)
    · rw [← hput]
      unfold putAll
      rw [if_pos hf]
      exact Ret.mk ⟨rfl, D', h3, K3, hD2⟩
    have hdr := Ex.drew w3
    have h4 := h3.ex hdr
    have K4 := K3.tr (hdr.kp _)
    generalize w3.drew = w4 at h4 K4 ⊢
    clear h3 hdr
    have hg' := spend_good hg2
    obtain ⟨left, ps, pl, cs, cl, hlf, h4, hD4⟩ := h4
    obtain ⟨a, haa, hrow⟩ := row2 (hl w4 K4) hx
    have hr0 := hrow 0 _ rfl
    have hr1 := hrow 1 _ rfl
    rw [add_add, Nat.add_zero] at hr0
    simp only [addr1]
    refine ⟨_, _, _, h4.cell.at (j := 1) rfl, chkd_of h0 (chkd_of hc (optP_of haa ⟨_, hr0, chkd_of h0 (chkd_of hc (optP_of haa ⟨_, _, _, hr1, x.bs, (hw x hxm).len, (hw x hxm).cells w4 K4, ?_⟩))⟩))⟩
    rintro b3 w5 rfl rfl
    have c5 : CellsO (w4.alloc (.cells #[.int .i64 x.i, .string (strOf x.bs)] 72)) (some ⟨w4.heap.size, 0, none⟩) (textRow (x.i, x.bs)) := CellsO.alloc (textRow (x.i, x.bs)) 72
    have x5 := Ex.alloc w4 (.cells #[.int .i64 x.i, .string (strOf x.bs)] 72)
    generalize w4.alloc (.cells #[.int .i64 x.i, .string (strOf x.bs)] 72) = w5 at c5 x5 ⊢
    have h5 := h4.ex x5
    have K5 := K4.tr (x5.kp _)
    refine ⟨h5.cell.at (j := 1) rfl, ?_⟩
    have hll : (spend d').loose.length ≤ 1000000000 := by rw [hsm.2.2]; omega
    refine appP_own2 h5.lo (Nat.le_trans hB K5.size) (textRow (x.i, x.bs)) c5 rfl (textRow_one _) (by rfl) (by omega) (by omega) (fun p6 c6 w6 o6 k6 hp6 => ?_)
    have t72 : ∀ i, (∃ y, pl = some y ∧ y.block = i) → Typed w5 72 i := fun i ⟨y, hy, hi⟩ => hi ▸ (h5.lo.typed hy).1
    have hm4 : ∀ i, i < w.heap.size → RIts pr ps pl i → D i := fun i hi hm => hstep i hi ((hD4 i).2 hm)
    have cell6 := h5.cell.away k6 72 t72 (by decide)
    have su6 := h5.su.away k6 72 t72 (by decide)
    have K6 : Kp w w6 D := Kp.trans K5 k6 (fun _ _ h => h) fun i hi hm => hm4 i hi (.inr (.inr hm))
    refine optP_of rfl ?_
    refine cell6.put1 (j := 1) (by show 1 < 1 * 4; omega) rfl fun w7 k7 cell7 => ?_
    have t54 : ∀ i, i = pr → Typed w6 54 i := fun i hi => hi ▸ (cell6.typed rfl).1
    have K7 : Kp w w7 D := Kp.trans K6 k7 (fun _ _ h => h) fun i hi hm => hm4 i hi (.inl hm)
    rw [w64 (by omega) (by omega)]
    rw [textCells_push] at o6
    have hllen : (put1 (spend d') x.i x.bs).loose.length = (spend d').loose.length + 1 := by simp [put1]
    refine ⟨⟨by trivial, by trivial, by trivial, by trivial, by omega, by omega, put1 (spend d') x.i x.bs, RIts pr ps p6, ⟨left, ps, p6, cs, c6, hlf, ⟨?_, su6.away k7 54 t54 (by decide), ?_⟩, fun i => Iff.rfl⟩, put1_good hg' (by rw [hsm.2.1]; exact hrange) ⟨hx64, (hw x hxm).wf⟩, K7, fun i hi => ?_, ?_, ?_, ?_⟩, by ((try dsimp only); omega)⟩
    · rw [hllen]; exact cell7
    · rw [hllen]; exact o6.away k7 54 t54 (by decide)
    · rcases hi with hi | hi | ⟨y, hy, hi⟩
      · exact hD2 i ((hD4 i).2 (.inl hi))
      · exact hD2 i ((hD4 i).2 (.inr (.inl hi)))
      · rcases hp6 with hp | hp
        · exact hD2 i ((hD4 i).2 (.inr (.inr ⟨y, by rw [← hp]; exact hy, hi⟩)))
        · have := hp y hy
          have := K5.size
          exact .inr (by omega)
    · rw [← hput, show (t + 1).toNat = t.toNat + 1 by omega, ← List.map_drop]
      conv => rhs; unfold putAll
      rw [if_neg (by rw [hf]; decide)]
      rfl
    · simp only [put1, hsm.2.2, List.length_append, List.length_cons, List.length_nil]
      omega
    · simp only [put1, hsm.2.1, List.length_set]
      exact hnl
  · have hc := of_decide_eq_false hc
    rw [List.drop_eq_nil_of_le (by rw [List.length_map]; omega)] at hput
    rw [← hput]
    exact Ret.mk ⟨rfl, D', h2, K2, hD2⟩
end Go.Proofs.Yticdeknmeafjcaa.G
