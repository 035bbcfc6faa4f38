/-
  The law BasinAll: the walk.
-/
import Derived.Test.YticdeknmeafjcaaBasinG
namespace Go.Proofs.Yticdeknmeafjcaa.G
open Go.Dec Go.RowKit
set_option linter.unusedVariables false
set_option linter.unusedSimpArgs false

theorem setAll_push (s : List (List Int)) (l : List (Int × List Int)) (p : Int × List Int) : setAll s (l ++ [p]) = (setAll s l).set p.1.toNat p.2 := by simp [setAll]
theorem u8s_eq {ns s : List Int} {w : World} (hns : ns = s) : u8s ns = u8s s := by rw [hns]

/-- the last comparison: both devices hold the same -/
theorem k6_spec {w0 w : World} {pa pb pd : Nat} {a b d : Dev} {N0 : List (List Int)} (hT : Devs w w0.heap.size [(pa, a), (pb, b), (pd, d)]) (X : Ex w0 w) (ha : a.loose = []) (hb : b.sure = N0) (lb : b.loose.length ≤ 1000) (hd : d.now = N0) (hN : N0.length = 10)
    {kp : Option Addr} {kn kc : Nat} : stopcocklaw05_BasinAll.k6 (some ⟨pa, 0, none⟩) (some ⟨pb, 0, none⟩) kp kn kc (some ⟨pd, 0, none⟩) (kn : Int) w (RR w0) := by
  unfold stopcocklaw05_BasinAll.k6
  obtain ⟨E, hv, hn⟩ := hT.rot.use
  refine callP.use (Crash_spec (keep := []) hv.dev hv.good (fun w' _ => rfl) rfl (by omega) (by omega)) ?_
  rintro _ w1 ⟨rfl, ha1⟩
  try dsimp only [dI_i64, dI_u8, dI_u16, dI_u32, dB_bool, dS_slice, dP_ptr, dT_tup, dA_agg, dStr_str, dF_f, dC_c, dM_m, optP_some, ga0, ga1, ga2, ga3, ga4, cond_true, cond_false, chk_true, Bool.not_true, Bool.not_false, Option.isNone_none, Option.isNone_some, List.toList_toArray]
  obtain ⟨h1, m1⟩ := hn w1 _ ha1 ⟨rfl, rfl⟩
  have X1 := m1.ex X (Nat.le_refl _)
  have hcr : (crash [] b).now = N0 := by unfold crash; rw [settle_none]; exact hb
  refine ⟨fun t5 t7 q0 q1 q2 t16 t21 t27 w' => t5 = some ⟨pa, 0, none⟩ ∧ t7 = some ⟨pb, 0, none⟩ ∧ kp = q0 ∧ kn = q1 ∧ kc = q2 ∧ t16 = some ⟨pd, 0, none⟩ ∧ (kn : Int) = t21 ∧ 0 ≤ t27 ∧ t27 ≤ 10 ∧ Ex w1 w', fun t5 t7 q0 q1 q2 t16 t21 t27 w' => (10 - t27).toNat, ?_, ?_⟩
  · exact ⟨rfl, rfl, rfl, rfl, rfl, rfl, rfl, by omega, by omega, Ex.refl _⟩
  rintro _ _ _ _ _ _ _ t w2 ⟨rfl, rfl, rfl, rfl, rfl, rfl, rfl, h0, h10, X2⟩
  unfold stopcocklaw05_BasinAll.b5
  refine cond_of (fun hc => ?_) (fun hc => ?_)
  · have hc := of_decide_eq_true hc
    obtain ⟨E1, hv1, _⟩ := (h1.ex X2).use
    refine callP.use (get_live hv1 (by rw [hcr]; omega)) ?_
    rintro _ w3 ⟨x3, p3, c3, s3, hs3, hS3, rfl, o3⟩
    try dsimp only [dI_i64, dI_u8, dI_u16, dI_u32, dB_bool, dS_slice, dP_ptr, dT_tup, dA_agg, dStr_str, dF_f, dC_c, dM_m, optP_some, ga0, ga1, ga2, ga3, ga4, cond_true, cond_false, chk_true, Bool.not_true, Bool.not_false, Option.isNone_none, Option.isNone_some, List.toList_toArray]
    obtain ⟨E2, hv2, _⟩ := ((h1.ex X2).ex x3).rot.use
    refine callP.use (get_live hv2 (by rw [hd]; omega)) ?_
    rintro _ w4 ⟨x4, p4, c4, s4, hs4, hS4, rfl, o4⟩
    try dsimp only [dI_i64, dI_u8, dI_u16, dI_u32, dB_bool, dS_slice, dP_ptr, dT_tup, dA_agg, dStr_str, dF_f, dC_c, dM_m, optP_some, ga0, ga1, ga2, ga3, ga4, cond_true, cond_false, chk_true, Bool.not_true, Bool.not_false, Option.isNone_none, Option.isNone_some, List.toList_toArray]
    rw [hcr] at hs3
    rw [hd, hs3] at hs4
    cases hs4
    refine ⟨s3, hS3.1, (o3.ex x4).cells, s3, hS3.1, o4.cells, ?_⟩
    rw [strOf_eq hS3.2 hS3.2, cond_neg (by simp), w64 (by omega) (by omega)]
    exact ⟨⟨rfl, rfl, rfl, rfl, rfl, rfl, rfl, by omega, by omega, (X2.trans x3).trans x4⟩, by ((try dsimp only); omega)⟩
  · unfold stopcocklaw05_BasinAll.k7
    rw [cond_pos (by simp)]
    obtain ⟨E1, hv1, _⟩ := (h1.ex X2).rot.rot.use
    refine callP.use (Loose_spec hv1.dev) ?_
    rintro _ w5 ⟨rfl, rfl⟩
    try dsimp only [dI_i64, dI_u8, dI_u16, dI_u32, dB_bool, dS_slice, dP_ptr, dT_tup, dA_agg, dStr_str, dF_f, dC_c, dM_m, optP_some, ga0, ga1, ga2, ga3, ga4, cond_true, cond_false, chk_true, Bool.not_true, Bool.not_false, Option.isNone_none, Option.isNone_some, List.toList_toArray]
    rw [ha]
    exact Ret.mk ⟨rfl, X1.trans X2⟩

theorem k5_spec {w0 w : World} {pa pb pd : Nat} {a b d : Dev} {N0 : List (List Int)} (hT : Devs w w0.heap.size [(pa, a), (pb, b), (pd, d)]) (X : Ex w0 w) (sa : a.sure = N0) (sb : b.sure = N0) (na : a.now = setAll N0 a.loose) (nb : b.now = a.now) (lb : b.loose.length ≤ 1000) (hd : d.now = N0) (hN : N0.length = 10)
    {kp : Option Addr} {kn kc : Nat} (hk : Own w w0.heap.size 3 1 kp kn kc ((nums kn).map (Value.int .i64))) (la : a.loose.length = kn) (hkn : kn ≤ 1000) : stopcocklaw05_BasinAll.k5 (some ⟨pa, 0, none⟩) (some ⟨pb, 0, none⟩) kp kn kc (some ⟨pd, 0, none⟩) w (RR w0) := by
  unfold stopcocklaw05_BasinAll.k5
  obtain ⟨E, hv, hn⟩ := hT.use
  refine callP.use (Loose_spec hv.dev) ?_
  rintro _ w1 ⟨rfl, rfl⟩
  try dsimp only [dI_i64, dI_u8, dI_u16, dI_u32, dB_bool, dS_slice, dP_ptr, dT_tup, dA_agg, dStr_str, dF_f, dC_c, dM_m, optP_some, ga0, ga1, ga2, ga3, ga4, cond_true, cond_false, chk_true, Bool.not_true, Bool.not_false, Option.isNone_none, Option.isNone_some, List.toList_toArray]
  rw [la]
  refine callP.use (Crash_spec (keep := nums kn) hv.dev hv.good (CellsK.of_own hv.dev hk (by decide) (by decide) (by decide)) (nums_len kn) (by omega) (by omega)) ?_
  rintro _ w2 ⟨rfl, ha2⟩
  try dsimp only [dI_i64, dI_u8, dI_u16, dI_u32, dB_bool, dS_slice, dP_ptr, dT_tup, dA_agg, dStr_str, dF_f, dC_c, dM_m, optP_some, ga0, ga1, ga2, ga3, ga4, cond_true, cond_false, chk_true, Bool.not_true, Bool.not_false, Option.isNone_none, Option.isNone_some, List.toList_toArray]
  obtain ⟨h2, m2⟩ := hn w2 _ ha2 ⟨rfl, rfl⟩
  have X2 := m2.ex X (Nat.le_refl _)
  have hcr : (crash (nums kn) a).now = b.now := by
    unfold crash
    rw [settle_all _ _ _ _ fun j hj => has_nums (by omega), nb, na, sa]
  have hln : (crash (nums kn) a).now.length = 10 := by
    rw [hcr, nb]
    rw [← hv.good.len, sa, hN]
  refine ⟨fun t5 t7 q0 q1 q2 t16 t21 t27 w' => t5 = some ⟨pa, 0, none⟩ ∧ t7 = some ⟨pb, 0, none⟩ ∧ kp = q0 ∧ kn = q1 ∧ kc = q2 ∧ t16 = some ⟨pd, 0, none⟩ ∧ (kn : Int) = t21 ∧ 0 ≤ t27 ∧ t27 ≤ 10 ∧ Ex w2 w', fun t5 t7 q0 q1 q2 t16 t21 t27 w' => (10 - t27).toNat, ?_, ?_⟩
  · exact ⟨rfl, rfl, rfl, rfl, rfl, rfl, rfl, by omega, by omega, Ex.refl _⟩
  rintro _ _ _ _ _ _ _ t w3 ⟨rfl, rfl, rfl, rfl, rfl, rfl, rfl, h0, h10, X3⟩
  unfold stopcocklaw05_BasinAll.b4
  refine cond_of (fun hc => ?_) (fun hc => ?_)
  · have hc := of_decide_eq_true hc
    obtain ⟨E1, hv1, _⟩ := (h2.ex X3).use
    refine callP.use (get_live hv1 (by rw [hln]; omega)) ?_
    rintro _ w4 ⟨x4, p3, c3, s3, hs3, hS3, rfl, o3⟩
    try dsimp only [dI_i64, dI_u8, dI_u16, dI_u32, dB_bool, dS_slice, dP_ptr, dT_tup, dA_agg, dStr_str, dF_f, dC_c, dM_m, optP_some, ga0, ga1, ga2, ga3, ga4, cond_true, cond_false, chk_true, Bool.not_true, Bool.not_false, Option.isNone_none, Option.isNone_some, List.toList_toArray]
    obtain ⟨E2, hv2, _⟩ := ((h2.ex X3).ex x4).rot.use
    refine callP.use (get_live hv2 (by rw [← hcr, hln]; omega)) ?_
    rintro _ w5 ⟨x5, p4, c4, s4, hs4, hS4, rfl, o4⟩
    try dsimp only [dI_i64, dI_u8, dI_u16, dI_u32, dB_bool, dS_slice, dP_ptr, dT_tup, dA_agg, dStr_str, dF_f, dC_c, dM_m, optP_some, ga0, ga1, ga2, ga3, ga4, cond_true, cond_false, chk_true, Bool.not_true, Bool.not_false, Option.isNone_none, Option.isNone_some, List.toList_toArray]
    rw [hcr] at hs3
    rw [hs3] at hs4
    cases hs4
    refine ⟨s3, hS3.1, (o3.ex x5).cells, s3, hS3.1, o4.cells, ?_⟩
    rw [strOf_eq hS3.2 hS3.2, cond_neg (by simp), w64 (by omega) (by omega)]
    exact ⟨⟨rfl, rfl, rfl, rfl, rfl, rfl, rfl, by omega, by omega, (X3.trans x4).trans x5⟩, by ((try dsimp only); omega)⟩
  · exact k6_spec (h2.ex X3) (X2.trans X3) rfl sb lb hd hN

theorem k4_spec {w0 w : World} {pa pb pc : Nat} {a b c : Dev} {N0 : List (List Int)} (hT : Devs w w0.heap.size [(pa, a), (pb, b), (pc, c)]) (X : Ex w0 w) (sa : a.sure = N0) (sb : b.sure = N0) (na : a.now = setAll N0 a.loose) (nb : b.now = a.now) (lb : b.loose.length ≤ 1000) (hcn : c.now = N0) (hN : N0.length = 10)
    {kp : Option Addr} {kn kc : Nat} (hk : Own w w0.heap.size 3 1 kp kn kc ((nums kn).map (Value.int .i64))) (la : a.loose.length = kn) (hkn : kn ≤ 1000) : stopcocklaw05_BasinAll.k4 (some ⟨pa, 0, none⟩) (some ⟨pb, 0, none⟩) (some ⟨pc, 0, none⟩) kp kn kc w (RR w0) := by
  unfold stopcocklaw05_BasinAll.k4
  refine callP.use (New_spec 10 w (by omega)) ?_
  rintro _ w1 ⟨pd, D, rfl, x1, h1⟩
  have h1 := fresh_dv h1
  try dsimp only [dI_i64, dI_u8, dI_u16, dI_u32, dB_bool, dS_slice, dP_ptr, dT_tup, dA_agg, dStr_str, dF_f, dC_c, dM_m, optP_some, ga0, ga1, ga2, ga3, ga4, cond_true, cond_false, chk_true, Bool.not_true, Bool.not_false, Option.isNone_none, Option.isNone_some, List.toList_toArray]
  have T1 := hT.push (x := (pd, fresh 10)) x1 h1 X.size (Nat.le_refl _)
  have X1 := X.trans x1
  have hk1 := hk.ex x1
  refine ⟨fun t5 t7 t9 q0 q1 q2 t16 t17 t18 w' => t5 = some ⟨pa, 0, none⟩ ∧ t7 = some ⟨pb, 0, none⟩ ∧ t9 = some ⟨pc, 0, none⟩ ∧ kp = q0 ∧ kn = q1 ∧ kc = q2 ∧ t16 = some ⟨pd, 0, none⟩ ∧ t17 = 0 ∧ 0 ≤ t18 ∧ t18 ≤ 10 ∧ Ex w0 w' ∧
    ∃ d, Devs w' w0.heap.size [(pd, d), (pa, a), (pb, b), (pc, c)] ∧ Own w' w0.heap.size 3 1 kp kn kc ((nums kn).map (Value.int .i64)) ∧ d.now.length = 10 ∧ (d.loose.length : Int) ≤ t18 ∧ ∀ (j : Nat), (j : Int) < t18 → d.now[j]? = N0[j]?, fun t5 t7 t9 q0 q1 q2 t16 t17 t18 w' => (10 - t18).toNat, ?_, ?_⟩
  · exact ⟨rfl, rfl, rfl, rfl, rfl, rfl, rfl, rfl, by omega, by omega, X1, fresh 10, T1, hk1, by simp [fresh], by simp [fresh], fun j hj => by omega⟩
  clear T1 hk1 X1 h1 x1 hk hT X
  rintro _ _ _ _ _ _ _ _ t w1 ⟨rfl, rfl, rfl, rfl, rfl, rfl, rfl, rfl, h0, h10, X1, d, T1, hk1, hdl, hdc, hdn⟩
  unfold stopcocklaw05_BasinAll.b3
  refine cond_of (fun hc => ?_) (fun hc => ?_)
  · have hc := of_decide_eq_true hc
    obtain ⟨E1, hv1, _⟩ := T1.rot.rot.rot.use
    refine callP.use (get_live hv1 (by rw [hcn]; omega)) ?_
    rintro _ w2 ⟨x2, p3, c3, s3, hs3, hS3, rfl, o3⟩
    try dsimp only [dI_i64, dI_u8, dI_u16, dI_u32, dB_bool, dS_slice, dP_ptr, dT_tup, dA_agg, dStr_str, dF_f, dC_c, dM_m, optP_some, ga0, ga1, ga2, ga3, ga4, cond_true, cond_false, chk_true, Bool.not_true, Bool.not_false, Option.isNone_none, Option.isNone_some, List.toList_toArray]
    rw [cond_neg (by decide), cond_neg (by decide)]
    refine put_one (B1 := 0) (T1.ex x2) (X1.trans x2) o3 hS3 (by omega) (by omega) fun w3 h3 X3 s => ?_
    rw [w64 (by omega) (by omega)]
    refine ⟨⟨rfl, rfl, rfl, rfl, rfl, rfl, rfl, rfl, by omega, by omega, X3, _, h3, s (hk1.ex x2) (by decide) (by decide) (by decide), by simp only [put1, List.length_set]; exact hdl, by simp only [put1, List.length_append, List.length_cons, List.length_nil]; omega, fun j hj => ?_⟩, by ((try dsimp only); omega)⟩
    simp only [put1]
    rw [List.getElem?_set]
    split
    · rename_i e
      rw [if_pos (by omega), ← e, ← hcn, hs3]
    · exact hdn j (by omega)
  · have hc := of_decide_eq_false hc
    have hd : d.now = N0 := by
      apply List.ext_getElem?
      intro j
      by_cases hj : j < 10
      · exact hdn j (by omega)
      · rw [List.getElem?_eq_none (by omega), List.getElem?_eq_none (by omega)]
    have T2 : Devs w1 w0.heap.size [(pa, a), (pb, b), (pd, d)] := by
      obtain ⟨D, T⟩ := T1.rot.rot.rot
      obtain ⟨E, F, _, h, _⟩ := Devz.cons.1 T
      exact Devs.rot ⟨F, h⟩
    exact k5_spec T2 X1 sa sb na nb lb hd hN hk1 la hkn

theorem k2_spec {w0 w : World} {pa pb pc : Nat} {a b c : Dev} {N0 : List (List Int)} (hT : Devs w w0.heap.size [(pa, a), (pb, b), (pc, c)]) (X : Ex w0 w) (na : a.now = N0) (nb : b.now = N0) (nc : c.now = N0) (hN : N0.length = 10)
    {p1 : Option Addr} {n1 c1 : Nat} {ys : List Int} (i1 : Ints .u8 w0 p1 n1 c1 ys) (m1 : c1 * 1 ≤ 140737488351232) : stopcocklaw05_BasinAll.k2 p1 n1 c1 (some ⟨pa, 0, none⟩) (some ⟨pb, 0, none⟩) (some ⟨pc, 0, none⟩) w (RR w0) := by
  unfold stopcocklaw05_BasinAll.k2
  refine flush_use hT X fun w1 T1 X1 => ?_
  refine flush_use T1.rot X1 fun w2 T2 X2 => ?_
  refine flush_use T2.rot X2 fun w3 T3 X3 => ?_
  have T3 := T3.rot
  rintro b7 w4 rfl rfl
  have o4 := (Own.alloc (w := w3) [] 3 1 0 rfl).lower X3.size
  have x4 := Ex.alloc w3 (.cells #[] 3)
  have o4' : Own (w3.alloc (.cells #[] 3)) w0.heap.size 3 1 (some ⟨w3.heap.size, 0, none⟩) 0 0 ((nums 0).map (Value.int .i64)) := o4
  have T4 := T3.ex x4
  have X4 := X3.trans x4
  generalize w3.alloc (.cells #[] 3) = w4 at o4' T4 X4 ⊢
  refine ⟨fun q1 m1 d1 t5 t7 t9 kp kn kc t14 w' => p1 = q1 ∧ n1 = m1 ∧ c1 = d1 ∧ t5 = some ⟨pa, 0, none⟩ ∧ t7 = some ⟨pb, 0, none⟩ ∧ t9 = some ⟨pc, 0, none⟩ ∧ (kn : Int) = t14 ∧ kn ≤ 40 ∧ Ex w0 w' ∧
    ∃ a b c, Devs w' w0.heap.size [(pa, a), (pb, b), (pc, c)] ∧ a.sure = N0 ∧ b.sure = N0 ∧ a.now = setAll N0 a.loose ∧ b.now = a.now ∧ a.loose.length = kn ∧ b.loose.length = kn ∧ c.now = N0 ∧ Own w' w0.heap.size 3 1 kp kn kc ((nums kn).map (Value.int .i64)),
    fun q1 m1 d1 t5 t7 t9 kp kn kc t14 w' => (40 - t14).toNat, ?_, ?_⟩
  · exact ⟨rfl, rfl, rfl, rfl, rfl, rfl, rfl, by omega, X4, _, _, _, T4, na, nb, na, by dsimp only; rw [na, nb], rfl, rfl, nc, o4'⟩
  clear T4 X4 o4' x4 o4 T3 X3 T2 X2 T1 X1 hT X na nb nc
  rintro _ _ _ _ _ _ kp kn kc t w4 ⟨rfl, rfl, rfl, rfl, rfl, rfl, rfl, hkn, X4, a, b, c, T4, sa, sb, na, nb, la, lb, nc, hk⟩
  unfold stopcocklaw05_BasinAll.b2
  have out : stopcocklaw05_BasinAll.k4 (some ⟨pa, 0, none⟩) (some ⟨pb, 0, none⟩) (some ⟨pc, 0, none⟩) kp kn kc w4 (RR w0) := k4_spec T4 X4 sa sb na nb (by omega) nc hN hk la (by omega)
  refine cond_of (fun hc => ?_) (fun _ => out)
  have hc := of_decide_eq_true hc
  refine cond_of (fun hc2 => ?_) (fun _ => out)
  have hc2 := of_decide_eq_true hc2
  clear out
  have hyl := i1.size
  obtain ⟨x, hx, hxm, _⟩ := getE (l := ys) (i := (kn : Int).toNat) (by omega)
  have hxb := wf_u8' (i1.wf x hxm)
  have hcell : ∀ w', Ex w0 w' → ∃ a, p1 = some a ∧ w'.cell? (a.add ((kn : Int).toNat * 1)) = some (.int .u8 x) := fun w' X => by
    rw [Nat.mul_one]
    exact (i1.cells.ex X).many (by rw [List.getElem?_map, hx]; rfl)
  obtain ⟨a1, rfl, hcd⟩ := hcell w4.drew (X4.trans (Ex.drew w4))
  have hcell : ∀ w', Ex w4 w' → w'.cell? (a1.add ((kn : Int).toNat * 1)) = some (.int .u8 x) := fun w' X => by
    obtain ⟨a, e, h⟩ := hcell w' (X4.trans X)
    cases e
    exact h
  refine chkd_of (by omega) (chkd_of hc ⟨x, hcd, chkd_of (by omega) (chkd_of hc ⟨x, hcd, ?_⟩)⟩)
  obtain ⟨Ea, hva, _⟩ := T4.use
  have hla : a.now.length = 10 := by rw [← hva.good.len, sa, hN]
  refine twoway hxb hcell fun q p m w5 B1 B2 x5 o o5 => ?_
  refine k3_spec (T4.ex x5) (X4.trans x5) o o5 (rep_sec hxb) (by omega) hla (by rw [nb]; exact hla) (by omega) (by omega) (hk.ex x5) (by omega) fun kp' kc' w6 T6 X6 hk6 => ?_
  rw [w64 (by omega) (by omega)]
  refine ⟨⟨rfl, rfl, rfl, rfl, rfl, rfl, by omega, by omega, X6, _, _, _, T6, sa, sb, ?_, ?_, ?_, ?_, nc, hk6⟩, by ((try dsimp only); omega)⟩
  · simp only [put1]
    rw [setAll_push, na]
  · simp only [put1]
    rw [nb]
  · simp [put1, la]
  · simp [put1, lb]

theorem BasinAll_row (p0 : Option Addr) (n0 c0 : Nat) (xs : List Int) (p1 : Option Addr) (n1 c1 : Nat) (ys : List Int) (w : World)
    (i0 : Ints .u8 w p0 n0 c0 xs) (_ : c0 * 1 ≤ 140737488351232) (i1 : Ints .u8 w p1 n1 c1 ys) (m1 : c1 * 1 ≤ 140737488351232) :
    stopcocklaw05_BasinAll.C p0 n0 c0 p1 n1 c1 w (Ret fun v w' => v = .bool true ∧ Ex w w') := by
  apply stopcocklaw05_BasinAll.ok
  unfold stopcocklaw05_BasinAll.main
  refine callP.use (New_spec 10 w (by omega)) ?_
  rintro _ w1 ⟨pa, Da, rfl, x1, h1⟩
  have h1 := fresh_dv h1
  try dsimp only [dI_i64, dI_u8, dI_u16, dI_u32, dB_bool, dS_slice, dP_ptr, dT_tup, dA_agg, dStr_str, dF_f, dC_c, dM_m, optP_some, ga0, ga1, ga2, ga3, ga4, cond_true, cond_false, chk_true, Bool.not_true, Bool.not_false, Option.isNone_none, Option.isNone_some, List.toList_toArray]
  have T1 := (Devs.none w w.heap.size).push (x := (pa, fresh 10)) x1 h1 (Nat.le_refl _) (Nat.le_refl _)
  refine callP.use (New_spec 10 w1 (by omega)) ?_
  rintro _ w2 ⟨pb, Db, rfl, x2, h2⟩
  have h2 := fresh_dv h2
  try dsimp only [dI_i64, dI_u8, dI_u16, dI_u32, dB_bool, dS_slice, dP_ptr, dT_tup, dA_agg, dStr_str, dF_f, dC_c, dM_m, optP_some, ga0, ga1, ga2, ga3, ga4, cond_true, cond_false, chk_true, Bool.not_true, Bool.not_false, Option.isNone_none, Option.isNone_some, List.toList_toArray]
  have T2 := T1.push (x := (pb, fresh 10)) x2 h2 x1.size (Nat.le_refl _)
  refine callP.use (New_spec 10 w2 (by omega)) ?_
  rintro _ w3 ⟨pc, Dc, rfl, x3, h3⟩
  have h3 := fresh_dv h3
  try dsimp only [dI_i64, dI_u8, dI_u16, dI_u32, dB_bool, dS_slice, dP_ptr, dT_tup, dA_agg, dStr_str, dF_f, dC_c, dM_m, optP_some, ga0, ga1, ga2, ga3, ga4, cond_true, cond_false, chk_true, Bool.not_true, Bool.not_false, Option.isNone_none, Option.isNone_some, List.toList_toArray]
  have T3 := T2.push (x := (pc, fresh 10)) x3 h3 (x1.trans x2).size (Nat.le_refl _)
  refine callP.use (awake_spec w3) ?_
  rintro _ w4 ⟨rfl, x4⟩
  try dsimp only [dI_i64, dI_u8, dI_u16, dI_u32, dB_bool, dS_slice, dP_ptr, dT_tup, dA_agg, dStr_str, dF_f, dC_c, dM_m, optP_some, ga0, ga1, ga2, ga3, ga4, cond_true, cond_false, chk_true, Bool.not_true, Bool.not_false, Option.isNone_none, Option.isNone_some, List.toList_toArray]
  rw [cond_neg (by decide), cond_neg (by decide), cond_neg (by decide), cond_neg (by decide)]
  have T4 : Devs w4 w.heap.size [(pa, fresh 10), (pb, fresh 10), (pc, fresh 10)] := by
    obtain ⟨D, T⟩ := T3.ex x4
    exact ⟨D, T.perm ((List.Perm.swap _ _ _).trans (((List.perm_append_comm (l₁ := [(pb, fresh 10), (pc, fresh 10)]) (l₂ := [(pa, fresh 10)]))).trans (List.Perm.refl _)))⟩
  have X4 := ((x1.trans x2).trans x3).trans x4
  clear T3 T2 T1 h1 h2 h3
  refine ⟨fun q0 m0 d0 q1 m1 d1 t5 t7 t9 t11 w' => p0 = q0 ∧ n0 = m0 ∧ c0 = d0 ∧ p1 = q1 ∧ n1 = m1 ∧ c1 = d1 ∧ t5 = some ⟨pa, 0, none⟩ ∧ t7 = some ⟨pb, 0, none⟩ ∧ t9 = some ⟨pc, 0, none⟩ ∧ 0 ≤ t11 ∧ t11 ≤ 40 ∧ Ex w w' ∧
    ∃ a b c, Devs w' w.heap.size [(pa, a), (pb, b), (pc, c)] ∧ b.now = a.now ∧ c.now = a.now ∧ a.now.length = 10 ∧ (a.loose.length : Int) ≤ t11 ∧ (b.loose.length : Int) ≤ t11 ∧ (c.loose.length : Int) ≤ t11,
    fun q0 m0 d0 q1 m1 d1 t5 t7 t9 t11 w' => (40 - t11).toNat, ?_, ?_⟩
  · exact ⟨rfl, rfl, rfl, rfl, rfl, rfl, rfl, rfl, rfl, by omega, by omega, X4, _, _, _, T4, rfl, rfl, by simp [fresh], by simp [fresh], by simp [fresh], by simp [fresh]⟩
  clear T4 X4 x1 x2 x3 x4
  rintro _ _ _ _ _ _ _ _ _ t w4 ⟨rfl, rfl, rfl, rfl, rfl, rfl, rfl, rfl, rfl, h0, h40, X4, a, b, c, T4, nb, nc, hla, la, lb, lc⟩
  unfold stopcocklaw05_BasinAll.b1
  have out : stopcocklaw05_BasinAll.k2 p1 n1 c1 (some ⟨pa, 0, none⟩) (some ⟨pb, 0, none⟩) (some ⟨pc, 0, none⟩) w4 (RR w) := k2_spec T4 X4 rfl nb nc hla i1 m1
  refine cond_of (fun hc => ?_) (fun _ => out)
  have hc := of_decide_eq_true hc
  refine cond_of (fun hc2 => ?_) (fun _ => out)
  have hc2 := of_decide_eq_true hc2
  clear out
  have hyl := i0.size
  obtain ⟨x, hx, hxm, _⟩ := getE (l := xs) (i := t.toNat) (by omega)
  have hxb := wf_u8' (i0.wf x hxm)
  have hcell : ∀ w', Ex w w' → ∃ a, p0 = some a ∧ w'.cell? (a.add (t.toNat * 1)) = some (.int .u8 x) := fun w' X => by
    rw [Nat.mul_one]
    exact (i0.cells.ex X).many (by rw [List.getElem?_map, hx]; rfl)
  obtain ⟨a1, rfl, hcd⟩ := hcell w4.drew (X4.trans (Ex.drew w4))
  have hcell : ∀ w', Ex w4 w' → w'.cell? (a1.add (t.toNat * 1)) = some (.int .u8 x) := fun w' X => by
    obtain ⟨a, e, h⟩ := hcell w' (X4.trans X)
    cases e
    exact h
  refine chkd_of h0 (chkd_of hc ⟨x, hcd, chkd_of h0 (chkd_of hc ⟨x, hcd, ?_⟩)⟩)
  refine twoway hxb hcell fun q p m w5 B1 B2 x5 o o5 => ?_
  refine k1_spec (T4.ex x5) (X4.trans x5) o o5 (rep_sec hxb) (by omega) hla (by rw [nb]; exact hla) (by rw [nc]; exact hla) (by omega) (by omega) (by omega) fun w6 T6 X6 => ?_
  rw [w64 (by omega) (by omega)]
  refine ⟨⟨rfl, rfl, rfl, rfl, rfl, rfl, rfl, rfl, rfl, by omega, by omega, X6, _, _, _, T6, ?_, ?_, ?_, ?_, ?_, ?_⟩, by ((try dsimp only); omega)⟩
  · simp only [put1]
    rw [nb]
  · simp only [put1]
    rw [nc]
  · simp only [put1, List.length_set]
    exact hla
  · simp only [put1, List.length_append, List.length_cons, List.length_nil]
    omega
  · simp only [put1, List.length_append, List.length_cons, List.length_nil]
    omega
  · simp only [put1, List.length_append, List.length_cons, List.length_nil]
    omega
end Go.Proofs.Yticdeknmeafjcaa.G
