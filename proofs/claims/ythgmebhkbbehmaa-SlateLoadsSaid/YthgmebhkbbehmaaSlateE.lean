/-
  The law SlateLoads: a device with any pages in its areas; slate.Load answers the newest state that the document's Decode finds there.
-/
import Derived.Test.YthgmebhkbbehmaaSlateD
namespace Go.Proofs.Ythgmebhkbbehmaa.G.Sl
open Go.Dec Go.RowKit En
set_option linter.unusedVariables false
set_option linter.unusedSimpArgs false

theorem zsec_bad : hdrOk Bas.zsec = false := by decide +kernel
theorem ans_nil : ans [] = (fl [], 0, 0, 0, 11) := ans_bad fun g => by have := g.n1; simp at this
theorem ans_zp : ans zp = (fl [], 6, 2, 7, 0) := by
  obtain ⟨g, e1, e2, e3, e4⟩ := laid_good zok zfit zents rfl
  have h := ans_good g
  rw [e1, e2, e3, e4] at h
  exact h
theorem accs_zp {d : Bas.Dev} {P0 P1 : List Int} (hP : zp = [P0, P1]) (h : d.now = ((List.replicate 60 Bas.zsec).set 13 P1).set 12 P0) : accs d 2 = (fl [], 6, 2, 7) := by
  have g0 : d.now[0]? = some Bas.zsec := by rw [h]; rfl
  have g12 : d.now[12]? = some P0 := by rw [h]; rfl
  have g13 : d.now[13]? = some P1 := by rw [h]; rfl
  have p0 : pgL d (12 * 0) = [] := by
    rw [pgL_some (s := Bas.zsec) (by simpa using g0), if_neg (fun hh => by rw [zsec_bad] at hh; cases hh.1)]
  obtain ⟨g, e1, e2, e3, e4⟩ := laid_good zok zfit zents rfl
  have hzp : laidAs 6 2 7 (pay 2 (fl [])) = [P0, P1] := hP
  rw [hzp] at g e2 e3 e4
  have hok : hdrOk P0 = true := g.hdr
  have h7 : fld P0 4 4 = 7 := e4
  have h1 : fld P0 10 1 = 1 := by
    have h' : fld P0 10 1 = (([P0, P1].length : Nat) : Int) - 1 := g.cnt
    simpa using h'
  have p12 : pgL d (12 * 1) = [P0, P1] := by
    rw [pgL_some (s := P0) (by simpa using g12), if_pos ⟨hok, by rw [h7]; decide⟩, h1]
    have a := drop_take (l := d.now) (a := 12) (j := 0) (s := P0) (by simpa using g12)
    have b := drop_take (l := d.now) (a := 12) (j := 1) (s := P1) (by simpa using g13)
    have e : (1 + (1 : Int).toNat) = 1 + 1 := rfl
    rw [e, b, a]
    rfl
  show upd (upd acc0 (ans (pgL d (12 * 0)))) (ans (pgL d (12 * 1))) = _
  rw [p0, p12, ans_nil, ← hP, ans_zp]
  rfl
theorem awake_spec (w : World) : stopcocklaw14_awake.C w (Ret fun v w' => v = .bool true ∧ Ex w w') := by
  apply stopcocklaw14_awake.ok
  unfold stopcocklaw14_awake.main
  refine callP.use (Bas.New_spec 60 w (by omega)) ?_
  rintro _ w1 ⟨pd, D, rfl, x1, h1⟩
  try dsimp only [dI_i64, dI_u8, dI_u16, dI_u32, dB_bool, dS_slice, dP_ptr, dT_tup, dA_agg, dStr_str, dF_f, dC_c, dM_m, optP_some, ga0, ga1, ga2, ga3, ga4, cond_true, cond_false, chk_true, Bool.not_true, Bool.not_false, Option.isNone_none, Option.isNone_some, List.toList_toArray]
  have hv : Sv w w1 pd (Bas.fresh 60) D 0 := ⟨h1, Bas.fresh_good (by omega), rfl, rfl, by simp [Bas.fresh], Nat.le_refl _, x1⟩
  obtain ⟨P0, P1, hP⟩ := zp_get
  refine callP.use (Save_zero hP hv) ?_
  rintro _ w3 ⟨rfl, d2, D2, hv2, hnow⟩
  try dsimp only [dI_i64, dI_u8, dI_u16, dI_u32, dB_bool, dS_slice, dP_ptr, dT_tup, dA_agg, dStr_str, dF_f, dC_c, dM_m, optP_some, ga0, ga1, ga2, ga3, ga4, cond_true, cond_false, chk_true, Bool.not_true, Bool.not_false, Option.isNone_none, Option.isNone_some, List.toList_toArray]
  refine callP.use (Load_spec ⟨hv2.dev, hv2.good, hv2.off, hv2.len⟩) ?_
  rw [accs_zp hP hnow]
  rintro _ w5 ⟨⟨ps, rfl, hst⟩, x5⟩
  try dsimp only [dI_i64, dI_u8, dI_u16, dI_u32, dB_bool, dS_slice, dP_ptr, dT_tup, dA_agg, dStr_str, dF_f, dC_c, dM_m, optP_some, ga0, ga1, ga2, ga3, ga4, cond_true, cond_false, chk_true, Bool.not_true, Bool.not_false, Option.isNone_none, Option.isNone_some, List.toList_toArray]
  rintro b1 w7 rfl rfl b2 w8 rfl rfl
  rw [zst_new, two_new]
  have o1 := Owns.new (w := w5) zst ty_api_State
  have x7 := Ex.alloc w5 (.cells zst.toArray ty_api_State)
  generalize hb1 : w5.heap.size = b1 at o1 ⊢
  generalize w5.alloc (.cells zst.toArray ty_api_State) = w7 at o1 x7 ⊢
  have o2 := Owns.new (w := w7) (two 0 0) ty_api_Plat
  have x8 := Ex.alloc w7 (.cells (two 0 0).toArray ty_api_Plat)
  have hb2 := x7.size
  generalize w7.heap.size = b2 at o2 hb2 ⊢
  generalize w7.alloc (.cells (two 0 0).toArray ty_api_Plat) = w8 at o2 x8 ⊢
  have o1 := o1.ex x8
  have hcl := hst.at.clen
  refine chk_of (decide_eq_true (by rw [List.size_toArray]; exact hcl)) ?_
  have t1 : ∀ i, i = b1 → Typed w8 ty_api_State i := fun i hi => by rw [hi]; exact (o1.typed rfl).1
  refine o1.put (cs := stC (fl []) ps) hcl hst.at.one fun w9 k9 o9 => ?_
  have o2 := o2.away k9 ty_api_State t1 (by decide)
  refine chk_of (by rfl) ?_
  have t2 : ∀ i, i = b2 → Typed w9 ty_api_Plat i := fun i hi => by rw [hi]; exact (o2.typed rfl).1
  refine o2.put (cs := two 6 2) (by rfl) two_one fun w10 k10 o10 => ?_
  have o9 := o9.away k10 ty_api_Plat t2 (by decide)
  have x10 : Ex w5 w10 := ((x7.trans x8).then k9 fun i hi => by omega).then k10 fun i hi => by omega
  rw [cond_pos (by rfl), cond_pos (by rfl), cond_pos (by rfl)]
  refine ⟨(stC (fl []) ps).toArray, by rw [List.size_toArray]; exact hcl, o9.cells, ?_⟩
  refine callP.use (refSound_all (hst.ex x10).at) ?_
  have hsnd : decide (SndR (fl [])) = true := by decide
  rw [hsnd]
  rintro _ w11 ⟨rfl, x11⟩
  try dsimp only [dI_i64, dI_u8, dI_u16, dI_u32, dB_bool, dS_slice, dP_ptr, dT_tup, dA_agg, dStr_str, dF_f, dC_c, dM_m, optP_some, ga0, ga1, ga2, ga3, ga4, cond_true, cond_false, chk_true, Bool.not_true, Bool.not_false, Option.isNone_none, Option.isNone_some, List.toList_toArray]
  refine ⟨2, (o10.ex x11).at (by rfl), ?_⟩
  rw [cond_pos (by rfl)]
  exact Ret.mk ⟨rfl, (hv2.ex.trans x5).trans (x10.trans x11)⟩

/-! ### A device with pages -/
theorem part_b {w0 w : World} {pd : Nat} {d : Bas.Dev} {D : Nat → Prop} {k : Nat} (h : Sv w0 w pd d D k) (hk : k ≤ 1000) {pb : Option Addr} {nb cb : Nat} {bs : List (List Int)} (hp : PIn w0 pb nb cb bs) (hb : ∀ pg ∈ bs, Bytes pg) {i : Nat} {a : Int} (ha : 0 ≤ a ∧ a < 60) {Z C : World → Prop} {X : List PanicEntry → World → Prop}
    (K : ∀ w' d' D', Sv w0 w' pd d' D' (k + 1) → C w') :
    cond (decide ((i : Int) < ((nb : Nat) : Int))) (
      chk (decide (0 ≤ (i : Int))) (
      chk (decide ((i : Int) < ((nb : Nat) : Int))) (
      optP pb fun d3 =>
      ∃ (p4 : Option Addr) (n3 : Nat) (c3 : Nat), w.cell? (d3.add ((i : Int).toNat * 1)) = some (Value.slice p4 n3 c3) ∧
      (cond (((n3 : Nat) : Int) == 64) (
      chk (decide (0 ≤ (i : Int))) (
      chk (decide ((i : Int) < ((nb : Nat) : Int))) (
      optP pb fun d4 =>
      ∃ (p5 : Option Addr) (n4 : Nat) (c4 : Nat), w.cell? (d4.add ((i : Int).toNat * 1)) = some (Value.slice p5 n4 c4) ∧
      (newP w #[(Value.int .i64 a), (Value.slice p5 n4 c4)] ty_api_Write fun b2 w6 =>
      callP Try.prog 11 #[(Value.pointer (some ⟨pd, 0, none⟩)), (Value.slice (some ⟨b2, 0, none⟩) 1 1)] w6 (fun v5 w7 =>
      dI .i64 v5 fun x3 =>
      cond (x3 != 0) (Z w7) (C w7)) X))))
      (C w))))) (C w) := by
  have hp' := hp.ex h.ex
  refine cond_of (fun hc => ?_) (fun hc => K w d D (h.wide (Nat.le_succ k)))
  have hc := of_decide_eq_true hc
  obtain ⟨ad, pg, q, dd, rfl, hg, r, hl, hcp⟩ := hp'.get (i := i) (by omega)
  have hmem := List.mem_of_getElem? hg
  refine chk_of (decide_eq_true (by omega)) (chk_of (decide_eq_true (by omega)) ?_)
  try dsimp only [dI_i64, dI_u8, dI_u16, dI_u32, dB_bool, dS_slice, dP_ptr, dT_tup, dA_agg, dStr_str, dF_f, dC_c, dM_m, optP_some, ga0, ga1, ga2, ga3, ga4, cond_true, cond_false, chk_true, Bool.not_true, Bool.not_false, Option.isNone_none, Option.isNone_some, List.toList_toArray]
  rw [Int.toNat_natCast, Nat.mul_one]
  refine ⟨q, pg.length, dd, r, ?_⟩
  refine cond_of (fun h64 => ?_) (fun h64 => K w d D (h.wide (Nat.le_succ k)))
  have h64 : (pg.length : Int) = 64 := by simpa using h64
  have h64 : pg.length = 64 := by omega
  refine chk_of (decide_eq_true (by omega)) (chk_of (decide_eq_true (by omega)) ?_)
  try dsimp only [dI_i64, dI_u8, dI_u16, dI_u32, dB_bool, dS_slice, dP_ptr, dT_tup, dA_agg, dStr_str, dF_f, dC_c, dM_m, optP_some, ga0, ga1, ga2, ga3, ga4, cond_true, cond_false, chk_true, Bool.not_true, Bool.not_false, Option.isNone_none, Option.isNone_some, List.toList_toArray]
  refine ⟨q, pg.length, dd, r, ?_⟩
  rw [h64]
  have hcp0 : CellsO w0 q (v8 pg) := by
    obtain ⟨ps0, hps, hlen, hrow⟩ := hp.at_
    obtain ⟨q', m', d', e1, _, _, e4⟩ := hrow i pg hg
    obtain ⟨a1, ea1, r1⟩ := (CellsO.ex h.ex hps).many e1
    cases ea1
    rw [r] at r1
    cases r1
    exact e4
  refine put_one h hk ha (Bas.CellsK.of_ex hcp0 h.ex h.low) ⟨h64, hb pg hmem⟩ fun w' D' hv' kp => ?_
  try dsimp only [dI_i64, dI_u8, dI_u16, dI_u32, dB_bool, dS_slice, dP_ptr, dT_tup, dA_agg, dStr_str, dF_f, dC_c, dM_m, optP_some, ga0, ga1, ga2, ga3, ga4, cond_true, cond_false, chk_true, Bool.not_true, Bool.not_false, Option.isNone_none, Option.isNone_some, List.toList_toArray]
  rw [cond_neg (by rfl)]
  exact K w' _ D' hv'
theorem disk_spec {w : World} {pa pb : Option Addr} {na ca nb cb : Nat} {la lb : List (List Int)} (ha : PIn w pa na ca la) (hba : ∀ pg ∈ la, Bytes pg) (hb : PIn w pb nb cb lb) (hbb : ∀ pg ∈ lb, Bytes pg) :
    stopcocklaw14_disk.C pa na ca pb nb cb w (Ret fun v w' => ∃ pd d D, v = .pointer (some ⟨pd, 0, none⟩) ∧ Live w' w.heap.size pd d D ∧ Ex w w') := by
  apply stopcocklaw14_disk.ok
  unfold stopcocklaw14_disk.main
  refine callP.use (Bas.New_spec 60 w (by omega)) ?_
  rintro _ w1 ⟨pd, D, rfl, x1, h1⟩
  try dsimp only [dI_i64, dI_u8, dI_u16, dI_u32, dB_bool, dS_slice, dP_ptr, dT_tup, dA_agg, dStr_str, dF_f, dC_c, dM_m, optP_some, ga0, ga1, ga2, ga3, ga4, cond_true, cond_false, chk_true, Bool.not_true, Bool.not_false, Option.isNone_none, Option.isNone_some, List.toList_toArray]
  rw [cond_neg (by rfl)]
  have hv : Sv w w1 pd (Bas.fresh 60) D 0 := ⟨h1, Bas.fresh_good (by omega), rfl, rfl, by simp [Bas.fresh], Nat.le_refl _, x1⟩
  unfold stopcocklaw14_disk.l1
  refine ⟨fun t0p t0n t0c t1p t1n t1c t5 t7 W => pa = t0p ∧ na = t0n ∧ ca = t0c ∧ pb = t1p ∧ nb = t1n ∧ cb = t1c ∧ t5 = some ⟨pd, 0, none⟩ ∧ 0 ≤ t7 ∧ t7 ≤ 12 ∧ ∃ d D, Sv w W pd d D (2 * t7.toNat), fun t0p t0n t0c t1p t1n t1c t5 t7 W => (12 - t7).toNat, ⟨rfl, rfl, rfl, rfl, rfl, rfl, rfl, by omega, by omega, _, D, hv⟩, ?_⟩
  clear hv h1 x1
  rintro _ _ _ _ _ _ _ t7 W ⟨rfl, rfl, rfl, rfl, rfl, rfl, rfl, i0, i1, d, D, hv⟩
  unfold stopcocklaw14_disk.b1
  obtain ⟨i, rfl⟩ := Int.eq_ofNat_of_zero_le i0
  rw [Int.toNat_natCast] at hv
  have hnext : IntKind.i64.wrap ((i : Int) + 1) = ((i + 1 : Nat) : Int) := by rw [w64 (by omega) (by omega)]; rfl
  have htn : ((i + 1 : Nat) : Int).toNat = i + 1 := rfl
  refine cond_of (fun hc => ?_) (fun hc => ?_)
  · have hc := of_decide_eq_true hc
    have e12 : IntKind.i64.wrap (12 + (i : Int)) = 12 + (i : Int) := w64 (by omega) (by omega)
    rw [hnext, e12]
    have go : ∀ {w' : World} {d' : Bas.Dev} {D' : Nat → Prop}, Sv w w' pd d' D' (2 * i + 2) → (fun (t0p : Option Addr) (t0n t0c : Nat) (t1p : Option Addr) (t1n t1c : Nat) (t5 : Option Addr) (t7 : Int) (W : World) => (pa = t0p ∧ na = t0n ∧ ca = t0c ∧ pb = t1p ∧ nb = t1n ∧ cb = t1c ∧ t5 = some ⟨pd, 0, none⟩ ∧ 0 ≤ t7 ∧ t7 ≤ 12 ∧ ∃ d D, Sv w W pd d D (2 * t7.toNat)) ∧ (12 - t7).toNat < (12 - (i : Int)).toNat) pa na ca pb nb cb (some ⟨pd, 0, none⟩) ((i + 1 : Nat) : Int) w' := fun {w' d' D'} h => ⟨⟨rfl, rfl, rfl, rfl, rfl, rfl, rfl, by omega, by omega, d', D', by rw [htn]; exact h⟩, by ((try dsimp only); omega)⟩
    have partB : ∀ {w' : World} {d' : Bas.Dev} {D' : Nat → Prop}, Sv w w' pd d' D' (2 * i + 1) → _ := fun {w' d' D'} h => part_b (i := i) (a := 12 + (i : Int)) h (by omega) hb hbb ⟨by omega, by omega⟩ (Z := fun w7 => Ret (fun v w' => ∃ pd d D, v = .pointer (some ⟨pd, 0, none⟩) ∧ Live w' w.heap.size pd d D ∧ Ex w w') (.returned (.pointer none)) w7) (C := fun w' => (fun (t0p : Option Addr) (t0n t0c : Nat) (t1p : Option Addr) (t1n t1c : Nat) (t5 : Option Addr) (t7 : Int) (W : World) => (pa = t0p ∧ na = t0n ∧ ca = t0c ∧ pb = t1p ∧ nb = t1n ∧ cb = t1c ∧ t5 = some ⟨pd, 0, none⟩ ∧ 0 ≤ t7 ∧ t7 ≤ 12 ∧ ∃ d D, Sv w W pd d D (2 * t7.toNat)) ∧ (12 - t7).toNat < (12 - (i : Int)).toNat) pa na ca pb nb cb (some ⟨pd, 0, none⟩) ((i + 1 : Nat) : Int) w') (X := fun ch w14 => Ret (fun v w' => ∃ pd d D, v = .pointer (some ⟨pd, 0, none⟩) ∧ Live w' w.heap.size pd d D ∧ Ex w w') (.panicked ch) w14) fun w' d' D' h => go h
    refine cond_of (fun hca => ?_) (fun hca => partB (hv.wide (Nat.le_succ _)))
    have hca := of_decide_eq_true hca
    have ha' := ha.ex hv.ex
    obtain ⟨ad, pg, q, dd, rfl, hg, r, hl, hcp⟩ := ha'.get (i := i) (by omega)
    have hmem := List.mem_of_getElem? hg
    refine chk_of (decide_eq_true (by omega)) (chk_of (decide_eq_true (by omega)) ?_)
    try dsimp only [dI_i64, dI_u8, dI_u16, dI_u32, dB_bool, dS_slice, dP_ptr, dT_tup, dA_agg, dStr_str, dF_f, dC_c, dM_m, optP_some, ga0, ga1, ga2, ga3, ga4, cond_true, cond_false, chk_true, Bool.not_true, Bool.not_false, Option.isNone_none, Option.isNone_some, List.toList_toArray]
    rw [Int.toNat_natCast, Nat.mul_one]
    refine ⟨q, pg.length, dd, r, ?_⟩
    refine cond_of (fun h64 => ?_) (fun h64 => ?_)
    · have h64 : (pg.length : Int) = 64 := by simpa using h64
      have h64 : pg.length = 64 := by omega
      refine chk_of (decide_eq_true (by omega)) (chk_of (decide_eq_true (by omega)) ?_)
      try dsimp only [dI_i64, dI_u8, dI_u16, dI_u32, dB_bool, dS_slice, dP_ptr, dT_tup, dA_agg, dStr_str, dF_f, dC_c, dM_m, optP_some, ga0, ga1, ga2, ga3, ga4, cond_true, cond_false, chk_true, Bool.not_true, Bool.not_false, Option.isNone_none, Option.isNone_some, List.toList_toArray]
      refine ⟨q, pg.length, dd, r, ?_⟩
      rw [h64]
      have hcp0 : CellsO w q (v8 pg) := by
        obtain ⟨ps0, hps, hlen, hrow⟩ := ha.at_
        obtain ⟨q', m', d', e1, _, _, e4⟩ := hrow i pg hg
        obtain ⟨a1, ea1, r1⟩ := (CellsO.ex hv.ex hps).many e1
        cases ea1
        rw [r] at r1
        cases r1
        exact e4
      refine put_one hv (by omega) (i := (i : Int)) ⟨by omega, by omega⟩ (Bas.CellsK.of_ex hcp0 hv.ex hv.low) ⟨h64, hba pg hmem⟩ fun w' D' hv' kp => ?_
      try dsimp only [dI_i64, dI_u8, dI_u16, dI_u32, dB_bool, dS_slice, dP_ptr, dT_tup, dA_agg, dStr_str, dF_f, dC_c, dM_m, optP_some, ga0, ga1, ga2, ga3, ga4, cond_true, cond_false, chk_true, Bool.not_true, Bool.not_false, Option.isNone_none, Option.isNone_some, List.toList_toArray]
      rw [cond_neg (by rfl)]
      have := partB hv'
      rw [Int.toNat_natCast, Nat.mul_one] at this
      exact this
    · have := partB (hv.wide (Nat.le_succ _))
      rw [Int.toNat_natCast, Nat.mul_one] at this
      exact this
  · have hc := of_decide_eq_false hc
    exact Ret.mk ⟨pd, d, D, rfl, ⟨hv.dev, hv.good, hv.off, hv.len⟩, hv.ex⟩
end Go.Proofs.Ythgmebhkbbehmaa.G.Sl
