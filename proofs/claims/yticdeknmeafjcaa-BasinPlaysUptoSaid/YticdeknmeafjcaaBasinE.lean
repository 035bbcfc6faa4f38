/-
  The law BasinLasts: the walk.
-/
import Derived.Test.YticdeknmeafjcaaBasinD
namespace Go.Proofs.Yticdeknmeafjcaa.G
open Go.Dec Go.RowKit
set_option linter.unusedVariables false
set_option linter.unusedSimpArgs false

theorem dev_away {w w' : World} {S : Nat → Prop} {B pd : Nat} {d : Dev} {D : Nat → Prop} (h : DevIs w B pd d D) (k : Kp w w' S) (f : TypeId) (hs : ∀ i, S i → Typed w f i) (h1 : f ≠ 62) (h2 : f ≠ 66) (h3 : f ≠ 68) : DevIs w' B pd d D :=
  h.kp k fun i hi hm => by
    rcases (h.typed hi).1 with ht | ht | ht
    · exact ht.ne (hs i hm) (fun e => h1 e.symm) rfl
    · exact ht.ne (hs i hm) (fun e => h2 e.symm) rfl
    · exact ht.ne (hs i hm) (fun e => h3 e.symm) rfl
structure Live (d : Dev) : Prop where
  after : d.after = -1
  on : d.off = false
theorem tmod_of {x m : Int} (h : 0 ≤ x) : Int.tmod x m = x % m := Int.tmod_eq_emod_of_nonneg h
theorem rep_len (x : Int) : (rep x).length = 64 := by simp [rep]
theorem rep_at (x : Int) {j : Nat} (h : j < 64) : (u8s (rep x))[j]? = some (.int .u8 x) := by
  unfold u8s rep
  rw [List.getElem?_map, List.getElem?_replicate, if_pos h]
  rfl

/-- what a sector holds behind a crash -/
def Held (wl : List Int) (ml : List Bool) (s : List (List Int)) : Prop := s.length = 20 ∧ ∀ (j : Nat) y, s[j]? = some y → ∃ v, y = rep v ∧ (wl[j]? = some v ∨ (100 ≤ v ∧ ml[j]? = some true))
theorem settle_held {wl : List Int} {ml : List Bool} (keep : List Int) : ∀ (l : List (Int × List Int)) (s : List (List Int)) (k : Int), Held wl ml s → (∀ p ∈ l, ∃ v, p.2 = rep v ∧ 100 ≤ v ∧ ml[p.1.toNat]? = some true) → Held wl ml (settle keep s l k)
  | [], s, k, h, _ => h
  | x :: r, s, k, h, hl => by
    rw [settle_cons]
    refine settle_held keep r _ _ ?_ fun p hp => hl p (List.mem_cons_of_mem _ hp)
    split
    · obtain ⟨v, h1, h2, h3⟩ := hl x (by simp)
      refine ⟨by rw [List.length_set]; exact h.1, fun j y hj => ?_⟩
      rw [List.getElem?_set] at hj
      split at hj
      · rename_i e
        split at hj
        · simp only [Option.some.injEq] at hj
          subst hj
          exact ⟨v, h1, .inr ⟨h2, by rw [← e]; exact h3⟩⟩
        · cases hj
      · exact h.2 j y hj
    · exact h

theorem set_map_rep (wl : List Int) (i : Nat) (v : Int) : (wl.map rep).set i (rep v) = (wl.set i v).map rep := by rw [List.map_set]

theorem BasinLasts_row (p0 : Option Addr) (n0 c0 : Nat) (xs : List Int) (p1 : Option Addr) (n1 c1 : Nat) (ys : List Int) (p2 : Option Addr) (n2 c2 : Nat) (keep : List Int) (w : World)
    (i0 : Ints .u8 w p0 n0 c0 xs) (_ : c0 * 1 ≤ 140737488351232) (i1 : Ints .u8 w p1 n1 c1 ys) (_ : c1 * 1 ≤ 140737488351232) (i2 : Ints .i64 w p2 n2 c2 keep) (m2 : c2 * 8 ≤ 140737488351232) :
    stopcocklaw05_BasinLasts.C p0 n0 c0 p1 n1 c1 p2 n2 c2 w (Ret fun v w' => v = .bool true ∧ Ex w w') := by
  apply stopcocklaw05_BasinLasts.ok
  unfold stopcocklaw05_BasinLasts.main
  refine callP.use (New_spec 20 w (by omega)) ?_
  rintro _ w1 ⟨pd, D, rfl, x1, h1⟩
  have hg1 : Good (fresh 20) := fresh_good (by omega)
  try dsimp only [dI_i64, dI_u8, dI_u16, dI_u32, dB_bool, dS_slice, dP_ptr, dT_tup, dA_agg, dStr_str, dF_f, dC_c, dM_m, optP_some, ga0, ga1, ga2, ga3, ga4, cond_true, cond_false, chk_true, Bool.not_true, Bool.not_false, Option.isNone_none, Option.isNone_some, List.toList_toArray]
  refine callP.use (awake_spec w1) ?_
  rintro _ w3 ⟨rfl, x3⟩
  try dsimp only [dI_i64, dI_u8, dI_u16, dI_u32, dB_bool, dS_slice, dP_ptr, dT_tup, dA_agg, dStr_str, dF_f, dC_c, dM_m, optP_some, ga0, ga1, ga2, ga3, ga4, cond_true, cond_false, chk_true, Bool.not_true, Bool.not_false, Option.isNone_none, Option.isNone_some, List.toList_toArray]
  rw [cond_neg (by decide)]
  rintro b2 w5 rfl rfl
  rw [madeCells_int]
  have o5 := Own.alloc (w := w3) ((List.replicate (20 * 1) (0 : Int)).map (Value.int .u8)) 5 1 20 (by simp)
  have x5 := Ex.alloc w3 (.cells ((List.replicate (20 * 1) (0 : Int)).map (Value.int .u8)).toArray 5)
  generalize w3.alloc (.cells ((List.replicate (20 * 1) (0 : Int)).map (Value.int .u8)).toArray 5) = w5 at o5 x5 ⊢
  have hb2 : w.heap.size ≤ w3.heap.size := (x1.trans x3).size
  have o5 := o5.lower hb2
  have X5 := (x1.trans x3).trans x5
  have h5 := (h1.ex x3).ex x5
  generalize w3.heap.size = b2 at o5 hb2 ⊢
  clear x1 x3 x5 h1
  refine ⟨fun q0 m0 d0 q1 m1 d1 q2 m2 d2 t7 t9p t9n t9c t10 w' => p0 = q0 ∧ n0 = m0 ∧ c0 = d0 ∧ p1 = q1 ∧ n1 = m1 ∧ c1 = d1 ∧ p2 = q2 ∧ n2 = m2 ∧ c2 = d2 ∧ t7 = some ⟨pd, 0, none⟩ ∧ t9p = some ⟨b2, 0, none⟩ ∧ 20 = t9n ∧ 20 = t9c ∧ 0 ≤ t10 ∧ t10 ≤ 50 ∧ Ex w w' ∧
    ∃ (d : Dev) (D : Nat → Prop) (wl : List Int), DevIs w' w.heap.size pd d D ∧ Good d ∧ Live d ∧ (d.loose.length : Int) ≤ t10 ∧ wl.length = 20 ∧ d.now = wl.map rep ∧ Own w' w.heap.size 5 1 (some ⟨b2, 0, none⟩) 20 20 (u8s wl),
    fun q0 m0 d0 q1 m1 d1 q2 m2 d2 t7 t9p t9n t9c t10 w' => (50 - t10).toNat, ?_, ?_⟩
  · exact ⟨rfl, rfl, rfl, rfl, rfl, rfl, rfl, rfl, rfl, rfl, rfl, rfl, rfl, by omega, by omega, X5, fresh 20, D, List.replicate 20 0, h5, hg1, ⟨rfl, rfl⟩, by simp [fresh], by simp, by simp [fresh, rep, zsec], o5⟩
  clear o5 X5 h5 hg1
  rintro _ _ _ _ _ _ _ _ _ _ _ _ _ t w5 ⟨rfl, rfl, rfl, rfl, rfl, rfl, rfl, rfl, rfl, rfl, rfl, rfl, rfl, h0, h1, X5, d, D, wl, hd, hg, hlive, hcnt, hwl, hnow, ow⟩
  unfold stopcocklaw05_BasinLasts.b1
  have out : stopcocklaw05_BasinLasts.k1 p1 n1 c1 p2 n2 c2 (some ⟨pd, 0, none⟩) (some ⟨b2, 0, none⟩) 20 20 w5 (Ret fun v w' => v = .bool true ∧ Ex w w') := by
    unfold stopcocklaw05_BasinLasts.k1
    refine callP.use (Flush_spec hd hg) ?_
    rw [flush_live hlive.after hlive.on]
    rintro _ w12 ⟨rfl, D12, h12, hg12, k12, _⟩
    try dsimp only [dI_i64, dI_u8, dI_u16, dI_u32, dB_bool, dS_slice, dP_ptr, dT_tup, dA_agg, dStr_str, dF_f, dC_c, dM_m, optP_some, ga0, ga1, ga2, ga3, ga4, cond_true, cond_false, chk_true, Bool.not_true, Bool.not_false, Option.isNone_none, Option.isNone_some, List.toList_toArray]
    rw [cond_neg (by decide)]
    have X12 : Ex w w12 := X5.then k12 fun i hi => (hd.typed hi).2.1
    have ow12 := off_dev hd k12 ow (by decide) (by decide) (by decide)
    rintro b4 w14 rfl rfl
    have em : madeCells #[Value.bool false] (20 * 1) = ((List.replicate 20 false).map Value.bool).toArray := by
      have := madeCells_rep 1 (20 * 1) (.bool false) (by decide)
      simpa using this
    rw [em]
    have o14 := Own.alloc (w := w12) ((List.replicate 20 false).map Value.bool) 4 1 20 (by simp)
    have x14 := Ex.alloc w12 (.cells ((List.replicate 20 false).map Value.bool).toArray 4)
    generalize w12.alloc (.cells ((List.replicate 20 false).map Value.bool).toArray 4) = w14 at o14 x14 ⊢
    have o14 := o14.lower X12.size
    have hb4 := X12.size
    generalize w12.heap.size = b4 at o14 hb4 ⊢
    have X14 := X12.trans x14
    have h14 := h12.ex x14
    have ow14 := ow12.ex x14
    refine ⟨fun q1 m1 d1 q2 m2 d2 t7 t9p t9n t9c t11p t11n t11c t12 w' => p1 = q1 ∧ n1 = m1 ∧ c1 = d1 ∧ p2 = q2 ∧ n2 = m2 ∧ c2 = d2 ∧ t7 = some ⟨pd, 0, none⟩ ∧ t9p = some ⟨b2, 0, none⟩ ∧ 20 = t9n ∧ 20 = t9c ∧ t11p = some ⟨b4, 0, none⟩ ∧ 20 = t11n ∧ 20 = t11c ∧ 0 ≤ t12 ∧ t12 ≤ 50 ∧ Ex w w' ∧
      ∃ (d : Dev) (D : Nat → Prop) (ml : List Bool), DevIs w' w.heap.size pd d D ∧ Good d ∧ Live d ∧ (d.loose.length : Int) ≤ t12 ∧ ml.length = 20 ∧ d.sure = wl.map rep ∧ (∀ p ∈ d.loose, ∃ v, p.2 = rep v ∧ 100 ≤ v ∧ ml[p.1.toNat]? = some true) ∧ Own w' w.heap.size 5 1 (some ⟨b2, 0, none⟩) 20 20 (u8s wl) ∧ Own w' w.heap.size 4 1 (some ⟨b4, 0, none⟩) 20 20 (ml.map Value.bool),
      fun q1 m1 d1 q2 m2 d2 t7 t9p t9n t9c t11p t11n t11c t12 w' => (50 - t12).toNat, ?_, ?_⟩
    · exact ⟨rfl, rfl, rfl, rfl, rfl, rfl, rfl, rfl, rfl, rfl, rfl, rfl, rfl, by omega, by omega, X14, _, D12, List.replicate 20 false, h14, hg12, ⟨hlive.after, hlive.on⟩, by simp, by simp, hnow, (fun p hp => by cases hp), ow14, o14⟩
    clear h14 X14 ow14 o14 x14 ow12 X12 h12 k12 hg12 hlive hcnt hnow hd ow em hg h0 h1 X5
    rintro _ _ _ _ _ _ _ _ _ _ _ _ _ t w5 ⟨rfl, rfl, rfl, rfl, rfl, rfl, rfl, rfl, rfl, rfl, rfl, rfl, rfl, h0, h1, X5, d, D, ml, hd, hg, hlive, hcnt, hml, hsure, hloose, ow, om⟩
    unfold stopcocklaw05_BasinLasts.b2
    have hnl : d.now.length = 20 := by rw [← hg.len, hsure, List.length_map, hwl]
    have out2 : stopcocklaw05_BasinLasts.k2 p2 n2 c2 (some ⟨pd, 0, none⟩) (some ⟨b2, 0, none⟩) 20 20 (some ⟨b4, 0, none⟩) 20 20 w5 (Ret fun v w' => v = .bool true ∧ Ex w w') := by
      unfold stopcocklaw05_BasinLasts.k2
      have hroom := i2.room
      refine callP.use (Crash_spec (keep := keep) hd hg (CellsK.of_ex i2.cells X5 fun i hi => (hd.typed hi).2.1) i2.size (by omega) (by omega)) ?_
      rintro _ w21 ⟨rfl, D21, h21, hg21, k21, _⟩
      try dsimp only [dI_i64, dI_u8, dI_u16, dI_u32, dB_bool, dS_slice, dP_ptr, dT_tup, dA_agg, dStr_str, dF_f, dC_c, dM_m, optP_some, ga0, ga1, ga2, ga3, ga4, cond_true, cond_false, chk_true, Bool.not_true, Bool.not_false, Option.isNone_none, Option.isNone_some, List.toList_toArray]
      have X21 : Ex w w21 := X5.then k21 fun i hi => (hd.typed hi).2.1
      have ow21 := off_dev hd k21 ow (by decide) (by decide) (by decide)
      have om21 := off_dev hd k21 om (by decide) (by decide) (by decide)
      have hheld : Held wl ml (crash keep d).now := by
        refine settle_held keep d.loose d.sure 0 ⟨by rw [hsure, List.length_map, hwl], fun j y hj => ?_⟩ hloose
        rw [hsure, List.getElem?_map] at hj
        obtain ⟨v, hv, rfl⟩ := Option.map_eq_some_iff.1 hj
        exact ⟨v, rfl, .inl hv⟩
      refine ⟨fun t7 t9p t9n t9c t11p t11n t11c t13 w' => t7 = some ⟨pd, 0, none⟩ ∧ t9p = some ⟨b2, 0, none⟩ ∧ 20 = t9n ∧ 20 = t9c ∧ t11p = some ⟨b4, 0, none⟩ ∧ 20 = t11n ∧ 20 = t11c ∧ 0 ≤ t13 ∧ t13 ≤ 20 ∧ Ex w21 w', fun t7 t9p t9n t9c t11p t11n t11c t13 w' => (20 - t13).toNat, ?_, ?_⟩
      · exact ⟨rfl, rfl, rfl, rfl, rfl, rfl, rfl, by omega, by omega, Ex.refl _⟩
      rintro _ _ _ _ _ _ _ t w6 ⟨rfl, rfl, rfl, rfl, rfl, rfl, rfl, h0, h1, X6⟩
      unfold stopcocklaw05_BasinLasts.b3
      refine cond_of (fun hc => ?_) (fun hc => ?_)
      · have hc := of_decide_eq_true hc
        refine callP.use (Get_spec (h21.ex X6) hg21 t) ?_
        rintro _ w23 ⟨x23, hv⟩
        have hgot : got (crash keep d) t = 0 := by
          unfold got
          rw [if_neg (by show ¬ (false = true); decide), if_neg (by rw [hheld.1]; omega)]
        rcases hv with ⟨hv, _⟩ | ⟨_, p', c', s, hs, rfl, o23⟩
        · exact absurd hgot hv
        obtain ⟨v, rfl, hcase⟩ := hheld.2 t.toNat s hs
        try dsimp only [dI_i64, dI_u8, dI_u16, dI_u32, dB_bool, dS_slice, dP_ptr, dT_tup, dA_agg, dStr_str, dF_f, dC_c, dM_m, optP_some, ga0, ga1, ga2, ga3, ga4, cond_true, cond_false, chk_true, Bool.not_true, Bool.not_false, Option.isNone_none, Option.isNone_some, List.toList_toArray]
        have next : ∀ k1, (fun t7' t9p' t9n' t9c' t11p' t11n' t11c' t13' w' => (t7' = some (⟨pd, 0, none⟩ : Addr) ∧ t9p' = some (⟨b2, 0, none⟩ : Addr) ∧ 20 = t9n' ∧ 20 = t9c' ∧ t11p' = some (⟨b4, 0, none⟩ : Addr) ∧ 20 = t11n' ∧ 20 = t11c' ∧ 0 ≤ t13' ∧ t13' ≤ 20 ∧ Ex w21 w') ∧ (20 - t13').toNat < (20 - t).toNat) (some (⟨pd, 0, none⟩ : Addr)) (some (⟨b2, 0, none⟩ : Addr)) 20 20 (some (⟨b4, 0, none⟩ : Addr)) 20 20 (IntKind.i64.wrap (t + 1)) (w23.drewN k1) := by
          intro k1
          rw [w64 (by omega) (by omega)]
          exact ⟨⟨rfl, rfl, rfl, rfl, rfl, rfl, rfl, by omega, by omega, (X6.trans x23).trans (Ex.drewN _ _)⟩, by omega⟩
        rw [cond_neg (by decide), cond_neg (by decide)]
        obtain ⟨a0, rfl, hc0⟩ := (o23.cells).one (rep_at v (by decide))
        obtain ⟨_, e, hc63⟩ := (o23.cells).many (j := 63) (rep_at v (by decide))
        cases e
        refine chkd_of (by omega) ⟨_, hc0, chkd_of (by omega) ⟨_, hc63, ?_⟩⟩
        rw [cond_neg (by simp)]
        have ow23 := (ow21.ex X6).ex x23
        have om23 := (om21.ex X6).ex x23
        obtain ⟨wv, hwv, _⟩ := getE (l := wl) (i := t.toNat) (by omega)
        have hcw := ow23.cells t.toNat (.int .u8 wv) (by unfold u8s; rw [List.getElem?_map, hwv]; rfl)
        rw [← Nat.mul_one t.toNat] at hcw
        refine chkd_of (by omega) ⟨_, hc0, chkd_of h0 (chkd_of (by omega) ⟨_, hcw, cond_of (fun hne => ?_) (fun _ k1 => next k1)⟩)⟩
        rcases hcase with hcase | ⟨hv100, hm⟩
        · rw [hwv] at hcase
          cases hcase
          simp at hne
        · have hcm := om23.cells t.toNat (.bool true) (by rw [List.getElem?_map, hm]; rfl)
          rw [← Nat.mul_one t.toNat] at hcm
          refine chkd_of h0 (chkd_of (by omega) ⟨_, hcm, ?_⟩)
          try dsimp only [dI_i64, dI_u8, dI_u16, dI_u32, dB_bool, dS_slice, dP_ptr, dT_tup, dA_agg, dStr_str, dF_f, dC_c, dM_m, optP_some, ga0, ga1, ga2, ga3, ga4, cond_true, cond_false, chk_true, Bool.not_true, Bool.not_false, Option.isNone_none, Option.isNone_some, List.toList_toArray]
          refine chkd_of (by omega) ⟨_, hc0, fun k1 => ?_⟩
          rw [cond_neg (by simp; omega)]
          exact next k1
      · refine callP.use (Loose_spec (h21.ex X6)) ?_
        rintro _ w25 ⟨rfl, rfl⟩
        try dsimp only [dI_i64, dI_u8, dI_u16, dI_u32, dB_bool, dS_slice, dP_ptr, dT_tup, dA_agg, dStr_str, dF_f, dC_c, dM_m, optP_some, ga0, ga1, ga2, ga3, ga4, cond_true, cond_false, chk_true, Bool.not_true, Bool.not_false, Option.isNone_none, Option.isNone_some, List.toList_toArray]
        exact Ret.mk ⟨congrArg Value.bool (by rfl), X21.trans X6⟩
    refine cond_of (fun hc => ?_) (fun _ => out2)
    have hc := of_decide_eq_true hc
    refine cond_of (fun hc2 => ?_) (fun _ => out2)
    have hc2 := of_decide_eq_true hc2
    clear out2
    have hyl := i1.size
    obtain ⟨x, hx, hxm, _⟩ := getE (l := ys) (i := t.toNat) (by omega)
    have hxb := wf_u8' (i1.wf x hxm)
    have hcell : ∀ w', Ex w w' → ∃ a, p1 = some a ∧ w'.cell? (a.add (t.toNat * 1)) = some (.int .u8 x) := fun w' X => by
      rw [Nat.mul_one]
      exact (i1.cells.ex X).many (by rw [List.getElem?_map, hx]; rfl)
    obtain ⟨a1, rfl, hcd⟩ := hcell w5.drew (X5.trans (Ex.drew w5))
    have hcell : ∀ w', Ex w w' → w'.cell? (a1.add (t.toNat * 1)) = some (.int .u8 x) := fun w' X => by
      obtain ⟨a, e, h⟩ := hcell w' X
      cases e
      exact h
    refine chkd_of h0 (chkd_of hc ⟨x, hcd, ?_⟩)
    have hdr := Ex.drew w5
    refine callP.use (fill_spec (IntKind.u8.wrap (IntKind.i64.wrap (100 + t))) w5.drew) ?_
    rintro _ w15 ⟨p3, c3, rfl, x15, o15⟩
    try dsimp only [dI_i64, dI_u8, dI_u16, dI_u32, dB_bool, dS_slice, dP_ptr, dT_tup, dA_agg, dStr_str, dF_f, dC_c, dM_m, optP_some, ga0, ga1, ga2, ga3, ga4, cond_true, cond_false, chk_true, Bool.not_true, Bool.not_false, Option.isNone_none, Option.isNone_some, List.toList_toArray]
    have x515 := hdr.trans x15
    refine ⟨hcell _ (X5.trans x515), ?_⟩
    rintro b5 w17 rfl rfl
    have o17 := Own.new (w := w15) [.int .i64 (IntKind.i64.wrap (Int.tmod x 20)), .slice p3 64 c3] 32
    have x17 := Ex.alloc w15 (.cells #[.int .i64 (IntKind.i64.wrap (Int.tmod x 20)), .slice p3 64 c3] 32)
    generalize w15.alloc (.cells #[.int .i64 (IntKind.i64.wrap (Int.tmod x 20)), .slice p3 64 c3] 32) = w17 at o17 x17 ⊢
    have x517 := x515.trans x17
    have e1 : IntKind.i64.wrap (Int.tmod x 20) = x % 20 := by rw [tmod_of hxb.1, w64 (by omega) (by omega)]
    have e2 : IntKind.u8.wrap (IntKind.i64.wrap (100 + t)) = 100 + t := by rw [w64 (by omega) (by omega), wu8]; omega
    rw [e1] at o17
    rw [e2] at o15
    refine callP.use (PutOne (hd.ex x517) hg (Nat.le_trans X5.size x517.size) o17 (o15.ex x17) (rep_sec (by omega)) (by omega)) ?_
    rw [put_live hlive.after hlive.on (by omega) (rep_len _)]
    rintro _ w18 ⟨rfl, D18, h18, hg18, k18, _⟩
    try dsimp only [dI_i64, dI_u8, dI_u16, dI_u32, dB_bool, dS_slice, dP_ptr, dT_tup, dA_agg, dStr_str, dF_f, dC_c, dM_m, optP_some, ga0, ga1, ga2, ga3, ga4, cond_true, cond_false, chk_true, Bool.not_true, Bool.not_false, Option.isNone_none, Option.isNone_some, List.toList_toArray]
    rw [cond_neg (by decide)]
    have X18 : Ex w w18 := (X5.trans x517).then k18 fun i hi => ((hd.ex x517).typed hi).2.1
    have ow18 := off_dev (hd.ex x517) k18 (ow.ex x517) (by decide) (by decide) (by decide)
    have om18 := off_dev (hd.ex x517) k18 (om.ex x517) (by decide) (by decide) (by decide)
    refine chkd_of h0 (chkd_of hc ⟨x, hcell _ X18, ?_⟩)
    rw [tmod_of hxb.1]
    refine chkd_of (by omega) (chkd_of (by omega) ?_)
    obtain ⟨q1, q2, q3, q4⟩ := om18.store (j := (x % 20).toNat) (by omega) (.bool true) rfl
    refine ⟨q1, q2, ?_⟩
    rintro w20 rfl
    have t4 : ∀ i, i = b4 → Typed w18 4 i := fun i hi => hi ▸ (om18.typed rfl).1
    rw [w64 (by omega) (by omega)]
    refine ⟨⟨rfl, rfl, rfl, rfl, rfl, rfl, rfl, rfl, rfl, rfl, rfl, rfl, rfl, by omega, by omega, X18.then q4 fun i hi => by rw [hi]; exact hb4, _, D18, ml.set (x % 20).toNat true, dev_away h18 q4 4 t4 (by decide) (by decide) (by decide), hg18, ⟨hlive.after, hlive.on⟩, by simp [put1]; omega, by rw [List.length_set]; exact hml, hsure, ?_, ow18.away q4 4 t4 (by decide), ?_⟩, by ((try dsimp only); omega)⟩
    · intro p hp
      simp only [put1] at hp
      rcases List.mem_append.1 hp with hp | hp
      · obtain ⟨v, e1, e2, e3⟩ := hloose p hp
        refine ⟨v, e1, e2, ?_⟩
        rw [List.getElem?_set]
        split
        · rename_i e
          rw [if_pos (by omega)]
        · exact e3
      · simp only [List.mem_singleton] at hp
        subst hp
        refine ⟨100 + t, rfl, by omega, ?_⟩
        dsimp only
        rw [List.getElem?_set, if_pos rfl, if_pos (by omega)]
    · rw [List.map_set]
      exact q3
  refine cond_of (fun hc => ?_) (fun _ => out)
  have hc := of_decide_eq_true hc
  refine cond_of (fun hc2 => ?_) (fun _ => out)
  have hc2 := of_decide_eq_true hc2
  clear out
  have hnl : d.now.length = 20 := by rw [hnow, List.length_map, hwl]
  have hxl := i0.size
  obtain ⟨x, hx, hxm, _⟩ := getE (l := xs) (i := t.toNat) (by omega)
  have hxb := wf_u8' (i0.wf x hxm)
  have hcell : ∀ w', Ex w w' → ∃ a, p0 = some a ∧ w'.cell? (a.add (t.toNat * 1)) = some (.int .u8 x) := fun w' X => by
    rw [Nat.mul_one]
    exact (i0.cells.ex X).many (by rw [List.getElem?_map, hx]; rfl)
  obtain ⟨a1, rfl, hcd⟩ := hcell w5.drew (X5.trans (Ex.drew w5))
  have hcell : ∀ w', Ex w w' → w'.cell? (a1.add (t.toNat * 1)) = some (.int .u8 x) := fun w' X => by
    obtain ⟨a, e, h⟩ := hcell w' X
    cases e
    exact h
  refine chkd_of h0 (chkd_of hc ⟨x, hcd, ?_⟩)
  have hdr := Ex.drew w5
  refine callP.use (fill_spec (IntKind.u8.wrap (IntKind.i64.wrap (t + 1))) w5.drew) ?_
  rintro _ w15 ⟨p3, c3, rfl, x15, o15⟩
  try dsimp only [dI_i64, dI_u8, dI_u16, dI_u32, dB_bool, dS_slice, dP_ptr, dT_tup, dA_agg, dStr_str, dF_f, dC_c, dM_m, optP_some, ga0, ga1, ga2, ga3, ga4, cond_true, cond_false, chk_true, Bool.not_true, Bool.not_false, Option.isNone_none, Option.isNone_some, List.toList_toArray]
  have x515 := hdr.trans x15
  refine ⟨hcell _ (X5.trans x515), ?_⟩
  rintro b5 w17 rfl rfl
  have o17 := Own.new (w := w15) [.int .i64 (IntKind.i64.wrap (Int.tmod x 20)), .slice p3 64 c3] 32
  have x17 := Ex.alloc w15 (.cells #[.int .i64 (IntKind.i64.wrap (Int.tmod x 20)), .slice p3 64 c3] 32)
  generalize w15.alloc (.cells #[.int .i64 (IntKind.i64.wrap (Int.tmod x 20)), .slice p3 64 c3] 32) = w17 at o17 x17 ⊢
  have x517 := x515.trans x17
  have e1 : IntKind.i64.wrap (Int.tmod x 20) = x % 20 := by rw [tmod_of hxb.1, w64 (by omega) (by omega)]
  have e2 : IntKind.u8.wrap (IntKind.i64.wrap (t + 1)) = t + 1 := by rw [w64 (by omega) (by omega), wu8]; omega
  rw [e1] at o17
  rw [e2] at o15
  refine callP.use (PutOne (hd.ex x517) hg (Nat.le_trans X5.size x517.size) o17 (o15.ex x17) (rep_sec (by omega)) (by omega)) ?_
  rw [put_live hlive.after hlive.on (by omega) (rep_len _)]
  rintro _ w18 ⟨rfl, D18, h18, hg18, k18, _⟩
  try dsimp only [dI_i64, dI_u8, dI_u16, dI_u32, dB_bool, dS_slice, dP_ptr, dT_tup, dA_agg, dStr_str, dF_f, dC_c, dM_m, optP_some, ga0, ga1, ga2, ga3, ga4, cond_true, cond_false, chk_true, Bool.not_true, Bool.not_false, Option.isNone_none, Option.isNone_some, List.toList_toArray]
  rw [cond_neg (by decide)]
  have X18 : Ex w w18 := (X5.trans x517).then k18 fun i hi => ((hd.ex x517).typed hi).2.1
  have ow18 := off_dev (hd.ex x517) k18 (ow.ex x517) (by decide) (by decide) (by decide)
  refine chkd_of h0 (chkd_of hc ⟨x, hcell _ X18, ?_⟩)
  rw [tmod_of hxb.1, e2]
  refine chkd_of (by omega) (chkd_of (by omega) ?_)
  obtain ⟨q1, q2, q3, q4⟩ := ow18.store (j := (x % 20).toNat) (by omega) (.int .u8 (t + 1)) rfl
  refine ⟨q1, q2, ?_⟩
  rintro w20 rfl
  have t5 : ∀ i, i = b2 → Typed w18 5 i := fun i hi => hi ▸ (ow18.typed rfl).1
  rw [w64 (by omega) (by omega)]
  refine ⟨⟨rfl, rfl, rfl, rfl, rfl, rfl, rfl, rfl, rfl, rfl, rfl, rfl, rfl, by omega, by omega, X18.then q4 fun i hi => by rw [hi]; exact hb2, _, D18, wl.set (x % 20).toNat (t + 1), dev_away h18 q4 5 t5 (by decide) (by decide) (by decide), hg18, ⟨hlive.after, hlive.on⟩, by simp [put1]; omega, by rw [List.length_set]; exact hwl, ?_, ?_⟩, by ((try dsimp only); omega)⟩
  · simp only [put1]
    rw [hnow, set_map_rep]
  · unfold u8s at q3 ⊢
    rw [List.map_set]
    exact q3
end Go.Proofs.Yticdeknmeafjcaa.G
