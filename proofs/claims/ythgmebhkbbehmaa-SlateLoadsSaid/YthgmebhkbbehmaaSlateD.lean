/-
  Writes to a device that was made here: one sector, a flush; slate.Save of the empty state; the law's awake and disk.
-/
import Derived.Test.YthgmebhkbbehmaaSlateC
namespace Go.Proofs.Ythgmebhkbbehmaa.G.Sl
open Go.Dec Go.RowKit En
set_option linter.unusedVariables false
set_option linter.unusedSimpArgs false

structure Sv (w0 w : World) (pd : Nat) (d : Bas.Dev) (D : Nat → Prop) (k : Nat) : Prop where
  dev : Bas.DevIs w w0.heap.size pd d D
  good : Bas.Good d
  off : d.off = false
  after : d.after = -1
  len : d.now.length = 60
  few : d.loose.length ≤ k
  ex : Ex w0 w
theorem Sv.more {w0 w w' : World} {pd : Nat} {d : Bas.Dev} {D : Nat → Prop} {k : Nat} (h : Sv w0 w pd d D k) (x : Ex w w') : Sv w0 w' pd d D k := ⟨h.dev.ex x, h.good, h.off, h.after, h.len, h.few, h.ex.trans x⟩
theorem Sv.low {w0 w : World} {pd : Nat} {d : Bas.Dev} {D : Nat → Prop} {k : Nat} (h : Sv w0 w pd d D k) : ∀ i, D i → w0.heap.size ≤ i := fun i hi => (h.dev.typed hi).2.1
theorem Sv.wide {w0 w : World} {pd : Nat} {d : Bas.Dev} {D : Nat → Prop} {k m : Nat} (h : Sv w0 w pd d D k) (hm : k ≤ m) : Sv w0 w pd d D m := ⟨h.dev, h.good, h.off, h.after, h.len, Nat.le_trans h.few hm, h.ex⟩
theorem put_one {w0 w : World} {pd : Nat} {d : Bas.Dev} {D : Nat → Prop} {k : Nat} (h : Sv w0 w pd d D k) (hk : k ≤ 1000) {i : Int} (hi : 0 ≤ i ∧ i < 60) {p : Option Addr} {c : Nat} {s : List Int} (hc : Bas.CellsK w D p (v8 s)) (hs : Bas.Sec s) {N : Value → World → Prop} {X : List PanicEntry → World → Prop}
    (K : ∀ w' D', Sv w0 w' pd (Bas.put1 d i s) D' (k + 1) → Kp w w' D → N (.int .i64 0) w') :
    newP w #[.int .i64 i, .slice p 64 c] ty_api_Write fun b1 w3 => callP Try.prog 11 #[.pointer (some ⟨pd, 0, none⟩), .slice (some ⟨b1, 0, none⟩) 1 1] w3 N X := by
  rintro b w1 rfl rfl
  have o := Owns.new (w := w) [.int .i64 i, .slice p 64 c] ty_api_Write
  have x := Ex.alloc w (.cells [Value.int .i64 i, .slice p 64 c].toArray ty_api_Write)
  generalize w.heap.size = b at o ⊢
  generalize w.alloc (.cells #[.int .i64 i, .slice p 64 c] ty_api_Write) = w1 at o x ⊢
  have h1 := h.more x
  have hgood := put_good h.good (i := i) (by rw [h.len]; exact hi) hs
  refine callP.use (Bas.Put_spec h1.dev h1.good h1.ex.size (ws := [⟨i, s, p, 64, c⟩]) rfl (Bas.CellsK.of_own h1.dev o (by decide) (by decide) (by decide)) (fun x' hx' => by
    simp only [List.mem_singleton] at hx'
    subst hx'
    exact ⟨hc.step (x.kp _) (fun i _ h => h), hs.1, hs.2⟩) (by omega) (by have := h1.few; omega)) ?_
  have hpl : Bas.Put d ([(⟨i, s, p, 64, c⟩ : Bas.Wt)].map Bas.Wt.plain) = (Bas.put1 d i s, 0) := Bas.put_live h1.after h1.off (by rw [h.len]; exact hi) hs.1
  rw [hpl]
  rintro _ w2 ⟨rfl, D', h2, hg2, k2, hD⟩
  have hx2 : Ex w0 w2 := h1.ex.then k2 h1.low
  exact K w2 D' ⟨h2, hg2, h.off, h.after, by rw [← h.len]; exact List.length_set, by show (d.loose ++ [(i, s)]).length ≤ k + 1; rw [List.length_append]; have := h.few; simp only [List.length_singleton]; omega, hx2⟩ (Kp.trans (x.kp D) k2 (fun _ _ h => h) (fun _ _ h => h))
 where
  put_good {d : Bas.Dev} (h : Bas.Good d) {i : Int} {s : List Int} (hi : 0 ≤ i ∧ i < (d.now.length : Int)) (hs : Bas.Sec s) : Bas.Good (Bas.put1 d i s) := Bas.put1_good h hi hs
theorem flush_one {w0 w : World} {pd : Nat} {d : Bas.Dev} {D : Nat → Prop} {k : Nat} (h : Sv w0 w pd d D k) {N : Value → World → Prop} {X : List PanicEntry → World → Prop}
    (K : ∀ w' D', Sv w0 w' pd { d with sure := d.now, loose := [] } D' 0 → Kp w w' D → N (.int .i64 0) w') :
    callP Try.prog 31 #[.pointer (some ⟨pd, 0, none⟩)] w N X := by
  refine callP.use (Bas.Flush_spec h.dev h.good) ?_
  rw [Bas.flush_live h.after h.off]
  rintro _ w2 ⟨rfl, D', h2, hg2, k2, hD⟩
  exact K w2 D' ⟨h2, hg2, h.off, h.after, h.len, Nat.le_refl _, h.ex.then k2 h.low⟩ k2
/-- pages outside the device stay -/
theorem pg_off {w0 w w' : World} {pd : Nat} {d : Bas.Dev} {D : Nat → Prop} {k : Nat} (h : Sv w0 w pd d D k) (kp : Kp w w' D) {B : Nat} {ps : List Value} {pgs : List (List Int)} (g : PgAt w B ps pgs) : PgAt w' B ps pgs :=
  g.keep fun o => Bas.off_dev h.dev kp o (by decide) (by decide) (by decide)

/-! ### The empty state is saved -/
def zt : List Int := pay 2 (fl [])
def zp : List (List Int) := laidAs 6 2 7 zt
theorem zfit : FitR 6 2 (fl []) := ⟨⟨by decide, by decide, by decide⟩, by decide⟩
theorem zok : okSeq 7 := ⟨by decide, by decide⟩
theorem zents : ∀ e ∈ fl [], okEnt e := (StO.zero default).ok
theorem zp_len : zp.length = 2 := by unfold zp; rw [hd_len]; rfl
theorem zp_bytes : ∀ pg ∈ zp, Bytes pg := laid_bytes zok zfit zents rfl
theorem zp_sec {i : Nat} {pg : List Int} (h : zp[i]? = some pg) : Bas.Sec pg := ⟨laid64 pg (List.mem_of_getElem? h), zp_bytes pg (List.mem_of_getElem? h)⟩
theorem zp_get : ∃ P0 P1, zp = [P0, P1] := by
  have h := zp_len
  match h2 : zp with
  | [a, b] => exact ⟨a, b, rfl⟩
  | [] => rw [h2] at h; simp at h
  | [a] => rw [h2] at h; simp at h
  | a :: b :: c :: l => rw [h2] at h; simp at h
theorem Save_zero {w0 w : World} {pd : Nat} {d : Bas.Dev} {D : Nat → Prop} {P0 P1 : List Int} (hP : zp = [P0, P1]) (h : Sv w0 w pd d D 0) : slate_Save.C (some ⟨pd, 0, none⟩) zst.toArray 6 2 7 w (Ret fun v w' => v = .int .i64 0 ∧ ∃ d2 D2, Sv w0 w' pd d2 D2 0 ∧ d2.now = (d.now.set 13 P1).set 12 P0) := by
  have s0 : Bas.Sec P0 := zp_sec (i := 0) (by rw [hP]; rfl)
  have s1 : Bas.Sec P1 := zp_sec (i := 1) (by rw [hP]; rfl)
  apply slate_Save.ok
  unfold slate_Save.main
  rintro b1 w1 rfl rfl b2 w2 rfl rfl
  have o1 := Owns.new (w := w) zst ty_api_State
  have x1 := Ex.alloc w (.cells zst.toArray ty_api_State)
  generalize w.heap.size = b1 at o1 ⊢
  generalize w.alloc (.cells zst.toArray ty_api_State) = w1 at o1 x1 ⊢
  rw [two_new]
  have o2 := Owns.new (w := w1) (two 6 2) ty_api_Plat
  have x2 := Ex.alloc w1 (.cells (two 6 2).toArray ty_api_Plat)
  generalize w1.heap.size = b2 at o2 ⊢
  generalize w1.alloc (.cells (two 6 2).toArray ty_api_Plat) = w2 at o2 x2 ⊢
  rw [cond_neg (by rfl)]
  have h2 := h.more (x1.trans x2)
  refine ⟨zst.toArray, rfl, (o1.ex x2).cells, (two 6 2).toArray, rfl, o2.cells, ?_⟩
  refine callP.use (Encode_all (R := fl []) (ps := List.replicate 8 (.slice none 0 0)) (StO.zero w2).at 6 2 7) ?_
  rintro _ w3 ⟨x3, hr⟩
  obtain ⟨_, _, p, n, c, ps, rfl, oL, hpg⟩ := hr.resolve_right (fun h => h.1 ⟨zok, zfit⟩)
  try dsimp only [dI_i64, dI_u8, dI_u16, dI_u32, dB_bool, dS_slice, dP_ptr, dT_tup, dA_agg, dStr_str, dF_f, dC_c, dM_m, optP_some, ga0, ga1, ga2, ga3, ga4, cond_true, cond_false, chk_true, Bool.not_true, Bool.not_false, Option.isNone_none, Option.isNone_some, List.toList_toArray]
  rw [cond_neg (by rfl)]
  have hpg : PgAt w3 w2.heap.size ps zp := hpg
  rw [hP] at hpg
  have h3 := h2.more x3
  refine callP.use (area_spec (q := 7) (by omega) w3) ?_
  rintro _ w5 ⟨rfl, e5⟩
  obtain rfl := e5.symm
  try dsimp only [dI_i64, dI_u8, dI_u16, dI_u32, dB_bool, dS_slice, dP_ptr, dT_tup, dA_agg, dStr_str, dF_f, dC_c, dM_m, optP_some, ga0, ga1, ga2, ga3, ga4, cond_true, cond_false, chk_true, Bool.not_true, Bool.not_false, Option.isNone_none, Option.isNone_some, List.toList_toArray]
  have e12 : (7 : Int) % 2 * 12 = 12 := by decide
  rw [e12]
  have hn2 : n = 2 := by have h1 := oL.1; have h2 := hpg.len; simp only [List.length_cons, List.length_nil] at h2; omega
  subst hn2
  obtain ⟨q0, c0, e0, g0⟩ := hpg.row 0 P0 rfl
  obtain ⟨q1, c1, e1, g1⟩ := hpg.row 1 P1 rfl
  refine chk_of (by decide) ?_
  have hps : ps = [.slice q0 64 c0, .slice q1 64 c1] := by
    have hl := hpg.len
    match ps, hl, e0, e1 with
    | [a, b], _, e0, e1 => simp at e0 e1; rw [e0, e1]
  subst hps
  have hrest : CellsO w3 (slA p c 1 1) [.slice q1 64 c1] := by
    have := oL.cells.slice c 1 1 oL.2.1
    exact this
  unfold slate_Save.l1
  refine ⟨fun t0 t9p t9n t9c t11 t32p t32n t32c t33 t34 W => t0 = some ⟨pd, 0, none⟩ ∧ p = t9p ∧ t9n = 2 ∧ c = t9c ∧ t11 = 12 ∧ slA p c 1 1 = t32p ∧ t32n = 1 ∧ t33 = 1 ∧ ((t34 = 0 ∧ w3 = W) ∨ (t34 = 1 ∧ ∃ D', Sv w0 W pd (Bas.put1 d 13 P1) D' 1 ∧ Owns W w2.heap.size ty_sl_uint8 1 p 2 c [.slice q0 64 c0, .slice q1 64 c1] ∧ Owns W w2.heap.size ty_uint8 1 q0 64 c0 (v8 P0))), fun t0 t9p t9n t9c t11 t32p t32n t32c t33 t34 W => (1 - t34).toNat, ⟨rfl, rfl, rfl, rfl, rfl, rfl, rfl, rfl, .inl ⟨rfl, rfl⟩⟩, ?_⟩
  rintro _ _ _ _ _ _ _ t32c _ t34 W ⟨rfl, rfl, rfl, rfl, rfl, rfl, rfl, rfl, hcase⟩
  unfold slate_Save.b1
  rcases hcase with ⟨rfl, rfl⟩ | ⟨rfl, D', hv, oL', g0'⟩
  · rw [condd_pos (by omega)]
    refine chk_of (by decide) (chk_of (by decide) ?_)
    obtain ⟨a, ea, ra⟩ := hrest.many (j := 0) (v := .slice q1 64 c1) rfl
    rw [ea]
    try dsimp only [dI_i64, dI_u8, dI_u16, dI_u32, dB_bool, dS_slice, dP_ptr, dT_tup, dA_agg, dStr_str, dF_f, dC_c, dM_m, optP_some, ga0, ga1, ga2, ga3, ga4, cond_true, cond_false, chk_true, Bool.not_true, Bool.not_false, Option.isNone_none, Option.isNone_some, List.toList_toArray]
    refine ⟨q1, 64, c1, ra, ?_⟩
    have e13 : IntKind.i64.wrap (IntKind.i64.wrap (12 + 1) + 0) = 13 := by decide
    rw [e13]
    refine put_one h3 (by omega) (i := 13) (by omega) (Bas.CellsK.of_own h3.dev g1 (by decide) (by decide) (by decide)) s1 fun w' D' hv kp => ?_
    try dsimp only [dI_i64, dI_u8, dI_u16, dI_u32, dB_bool, dS_slice, dP_ptr, dT_tup, dA_agg, dStr_str, dF_f, dC_c, dM_m, optP_some, ga0, ga1, ga2, ga3, ga4, cond_true, cond_false, chk_true, Bool.not_true, Bool.not_false, Option.isNone_none, Option.isNone_some, List.toList_toArray]
    rw [cond_neg (by rfl)]
    have e1 : IntKind.i64.wrap (0 + 1) = 1 := rfl
    rw [e1]
    exact ⟨⟨rfl, rfl, rfl, rfl, rfl, rfl, rfl, rfl, .inr ⟨rfl, D', hv, Bas.off_dev h3.dev kp oL (by decide) (by decide) (by decide), Bas.off_dev h3.dev kp g0 (by decide) (by decide) (by decide)⟩⟩, by ((try dsimp only); omega)⟩
  · rw [condd_neg (by omega)]
    unfold slate_Save.k1
    refine flush_one hv fun w10 D10 hv10 kp10 => ?_
    try dsimp only [dI_i64, dI_u8, dI_u16, dI_u32, dB_bool, dS_slice, dP_ptr, dT_tup, dA_agg, dStr_str, dF_f, dC_c, dM_m, optP_some, ga0, ga1, ga2, ga3, ga4, cond_true, cond_false, chk_true, Bool.not_true, Bool.not_false, Option.isNone_none, Option.isNone_some, List.toList_toArray]
    rw [cond_neg (by rfl)]
    have oL10 := Bas.off_dev hv.dev kp10 oL' (by decide) (by decide) (by decide)
    have g10 := Bas.off_dev hv.dev kp10 g0' (by decide) (by decide) (by decide)
    refine chk_of (by decide) ?_
    obtain ⟨a, ea, ra⟩ := oL10.cells.one (v := .slice q0 64 c0) rfl
    rw [ea]
    try dsimp only [dI_i64, dI_u8, dI_u16, dI_u32, dB_bool, dS_slice, dP_ptr, dT_tup, dA_agg, dStr_str, dF_f, dC_c, dM_m, optP_some, ga0, ga1, ga2, ga3, ga4, cond_true, cond_false, chk_true, Bool.not_true, Bool.not_false, Option.isNone_none, Option.isNone_some, List.toList_toArray]
    refine ⟨q0, 64, c0, ra, ?_⟩
    refine put_one hv10 (by omega) (i := 12) (by omega) (Bas.CellsK.of_own hv10.dev g10 (by decide) (by decide) (by decide)) s0 fun w13 D13 hv13 kp13 => ?_
    try dsimp only [dI_i64, dI_u8, dI_u16, dI_u32, dB_bool, dS_slice, dP_ptr, dT_tup, dA_agg, dStr_str, dF_f, dC_c, dM_m, optP_some, ga0, ga1, ga2, ga3, ga4, cond_true, cond_false, chk_true, Bool.not_true, Bool.not_false, Option.isNone_none, Option.isNone_some, List.toList_toArray]
    rw [cond_neg (by rfl)]
    refine flush_one hv13 fun w15 D15 hv15 kp15 => ?_
    try dsimp only [dI_i64, dI_u8, dI_u16, dI_u32, dB_bool, dS_slice, dP_ptr, dT_tup, dA_agg, dStr_str, dF_f, dC_c, dM_m, optP_some, ga0, ga1, ga2, ga3, ga4, cond_true, cond_false, chk_true, Bool.not_true, Bool.not_false, Option.isNone_none, Option.isNone_some, List.toList_toArray]
    exact Ret.mk ⟨rfl, _, D15, hv15, rfl⟩
end Go.Proofs.Ythgmebhkbbehmaa.G.Sl
