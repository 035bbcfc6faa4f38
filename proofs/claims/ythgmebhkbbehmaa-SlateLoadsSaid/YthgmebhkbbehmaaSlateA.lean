/-
  The pages that lie in an area: slate.pages and the law's pages.
-/
import Derived.Test.YthgmebhkbbehmaaLeafZD
import Derived.Test.YthgmebhkbbehmaaBas
namespace Go.Proofs.Ythgmebhkbbehmaa.G.Sl
open Go.Dec Go.RowKit En
set_option linter.unusedVariables false
set_option linter.unusedSimpArgs false

def pgL (d : Bas.Dev) (at_ : Nat) : List (List Int) := match d.now[at_]? with
  | none => []
  | some s => if hdrOk s = true ∧ (fld s 4 4 % 2) * 12 = (at_ : Int) then (d.now.drop at_).take (1 + (fld s 10 1).toNat) else []
theorem pgL_some {d : Bas.Dev} {at_ : Nat} {s : List Int} (h : d.now[at_]? = some s) : pgL d at_ = if hdrOk s = true ∧ (fld s 4 4 % 2) * 12 = (at_ : Int) then (d.now.drop at_).take (1 + (fld s 10 1).toNat) else [] := by
  unfold pgL
  rw [h]
theorem pgL_bytes {d : Bas.Dev} (hg : Bas.Good d) (at_ : Nat) : ∀ pg ∈ pgL d at_, Bytes pg := fun pg h => by
  have key : pg ∈ d.now := by
    unfold pgL at h
    split at h
    · cases h
    · split at h
      · exact List.mem_of_mem_drop (List.mem_of_mem_take h)
      · cases h
  exact (hg.now pg key).2
theorem hdr_cnt {s : List Int} (h : hdrOk s = true) : fld s 10 1 < 12 := by
  unfold hdrOk at h
  simp only [Bool.and_eq_true, decide_eq_true_eq] at h
  exact h.2
theorem drop_take {l : List (List Int)} {a j : Nat} {s : List Int} (h : l[a + j]? = some s) : (l.drop a).take (j + 1) = (l.drop a).take j ++ [s] := by
  rw [List.take_add_one, List.getElem?_drop, h]
  rfl
/-- a list of pages that grows -/
structure Got (w : World) (d : Bas.Dev) (at_ B : Nat) (p : Option Addr) (n c j : Nat) (W : World) : Prop where
  ex : Ex w W
  num : n = j
  row : ∃ rs, Owns W B ty_sl_uint8 1 p n c rs ∧ PgAt W 0 rs ((d.now.drop at_).take j)
theorem Got.pin {w : World} {d : Bas.Dev} {at_ B : Nat} {p : Option Addr} {n c j : Nat} {W : World} (h : Got w d at_ B p n c j W) : PIn W p n c ((d.now.drop at_).take j) := by
  obtain ⟨_, _, rs, o, g⟩ := h
  exact g.pin o
theorem Got.first {w W : World} {d : Bas.Dev} {at_ : Nat} {p : Option Addr} {c B : Nat} {s : List Int} (hx : Ex w W) (o : Owns W B ty_uint8 1 p 64 c (v8 s)) (hs : d.now[at_]? = some s) {N : Nat → World → Prop}
    (K : ∀ b w', w.heap.size ≤ b → Got w d at_ w.heap.size (some ⟨b, 0, none⟩) 1 1 1 w' → N b w') : newP W #[.slice p 64 c] ty_sl_uint8 N := by
  rintro b w' rfl rfl
  have o1 := Owns.new (w := W) [.slice p 64 c] ty_sl_uint8
  have x1 := Ex.alloc W (.cells [Value.slice p 64 c].toArray ty_sl_uint8)
  have hw := hx.size
  refine K _ _ hw ⟨hx.trans x1, rfl, [.slice p 64 c], o1.lower hw, ?_⟩
  have e : (d.now.drop at_).take 1 = [] ++ [s] := by
    have := drop_take (l := d.now) (a := at_) (j := 0) (s := s) hs
    simpa using this
  rw [e]
  exact (PgAt.nil _ _).snoc ((o.lower (Nat.zero_le _)).ex x1)
theorem Got.next {w W W' : World} {d : Bas.Dev} {at_ : Nat} {p : Option Addr} {n c j : Nat} (h : Got w d at_ w.heap.size p n c j W) (hx : Ex W W') {q : Option Addr} {e B : Nat} {s : List Int} (o : Owns W' B ty_uint8 1 q 64 e (v8 s)) (hs : d.now[at_ + j]? = some s) (hj : j ≤ 1000) {N : Option Addr → Nat → World → Prop}
    (K : ∀ p' c' w', Got w d at_ w.heap.size p' (n + 1) c' (j + 1) w' → N p' c' w') :
    newP W' #[.slice q 64 e] ty_sl_uint8 fun b2 w10 => appP w10 p n c 1 (CellsO w10 (some ⟨b2, 0, none⟩)) ty_sl_uint8 1 24 #[(Value.slice none 0 0)] fun p3 c3 w11 => N p3 c3 w11 := by
  obtain ⟨hex, rfl, rs, orow, hpg⟩ := h
  rintro b w' rfl rfl
  have o1 := Owns.new (w := W') [.slice q 64 e] ty_sl_uint8
  have x1 := Ex.alloc W' (.cells [Value.slice q 64 e].toArray ty_sl_uint8)
  generalize W'.alloc (.cells #[.slice q 64 e] ty_sl_uint8) = w10 at o1 x1 ⊢
  have xx := hx.trans x1
  have hl := orow.ex xx
  have hxw := hex.trans xx
  refine appP_own (B := w.heap.size) hl hxw.size [.slice q 64 e] o1.cells rfl slice_one rfl (by omega) (by omega) ?_
  intro p3 c3 w11 o11 k11
  have tl : ∀ i, (∃ y, p = some y ∧ y.block = i) → Typed w10 ty_sl_uint8 i := fun i ⟨y, e, hi⟩ => hi ▸ (hl.typed e).1
  refine K p3 c3 w11 ⟨hxw.then k11 fun i ⟨y, e, hi⟩ => by have := (hl.ge e).1; omega, rfl, rs ++ [.slice q 64 e], o11, ?_⟩
  rw [drop_take hs]
  exact ((hpg.ex xx).away k11 ty_sl_uint8 tl (by decide)).snoc (((o.lower (Nat.zero_le _)).ex x1).away k11 ty_sl_uint8 tl (by decide))
theorem area_spec {q : Int} (h : 0 ≤ q ∧ q ≤ 4294967296) (w : World) : slate_area.C q w (Ret fun v w' => v = .int .i64 ((q % 2) * 12) ∧ w' = w) := by
  apply slate_area.ok
  unfold slate_area.main
  refine Ret.mk ⟨?_, rfl⟩
  rw [Int.tmod_eq_emod_of_nonneg h.1, w64 (x := q % 2 * 12) (by omega) (by omega), w64 (by omega) (by omega), Int.zero_add]
theorem larea_spec {q : Int} (h : 0 ≤ q ∧ q ≤ 4294967296) (w : World) : stopcocklaw14_area.C q w (Ret fun v w' => v = .int .i64 ((q % 2) * 12) ∧ w' = w) := by
  apply stopcocklaw14_area.ok
  unfold stopcocklaw14_area.main
  refine Ret.mk ⟨?_, rfl⟩
  rw [Int.tmod_eq_emod_of_nonneg h.1, w64 (x := q % 2 * 12) (by omega) (by omega)]
/-- a device of sixty sectors whose power is there -/
structure Live (w : World) (B pd : Nat) (d : Bas.Dev) (D : Nat → Prop) : Prop where
  dev : Bas.DevIs w B pd d D
  good : Bas.Good d
  off : d.off = false
  len : d.now.length = 60
theorem Live.ex {w w' : World} {B pd : Nat} {d : Bas.Dev} {D : Nat → Prop} (h : Live w B pd d D) (x : Ex w w') : Live w' B pd d D := ⟨h.dev.ex x, h.good, h.off, h.len⟩
theorem Live.get {w : World} {B pd : Nat} {d : Bas.Dev} {D : Nat → Prop} (h : Live w B pd d D) {i : Int} {i' : Nat} (hi : i = i') (h60 : i' < 60) : basin_Basin_Get.C (some ⟨pd, 0, none⟩) i w (Ret fun v w' => ∃ p c s, d.now[i']? = some s ∧ v = .tuple #[.slice p 64 c, .int .i64 0] ∧ Owns w' w.heap.size ty_uint8 1 p 64 c (v8 s) ∧ Ex w w') := by
  subst hi
  refine (Bas.Get_spec h.dev h.good (i' : Int)).mono fun e w' ⟨v, he, hx, hr⟩ => ⟨v, he, ?_⟩
  have h0 : Bas.got d (i' : Int) = 0 := by
    unfold Bas.got
    rw [h.off, if_neg (by decide), if_neg (by rw [h.len]; omega)]
  rcases hr with ⟨hn, _⟩ | ⟨_, p, c, s, hs, rfl, o⟩
  · exact absurd h0 hn
  · exact ⟨p, c, s, by simpa using hs, rfl, o, hx⟩
theorem pages_spec {w : World} {B pd : Nat} {d : Bas.Dev} {D : Nat → Prop} (h : Live w B pd d D) {at_ : Nat} (hat : at_ ≤ 12) : slate_pages.C (some ⟨pd, 0, none⟩) at_ w (Ret fun v w' => ∃ p n c, v = .tuple #[.slice p n c, .int .i64 0] ∧ PIn w' p n c (pgL d at_) ∧ n ≤ 100 ∧ Ex w w') := by
  apply slate_pages.ok
  unfold slate_pages.main
  refine callP.use (h.get rfl (by omega)) ?_
  rintro _ w1 ⟨p1, c1, s, hs, rfl, o1, x1⟩
  try dsimp only [dI_i64, dI_u8, dI_u16, dI_u32, dB_bool, dS_slice, dP_ptr, dT_tup, dA_agg, dStr_str, dF_f, dC_c, dM_m, optP_some, ga0, ga1, ga2, ga3, ga4, cond_true, cond_false, chk_true, Bool.not_true, Bool.not_false, Option.isNone_none, Option.isNone_some, List.toList_toArray]
  rw [cond_neg (by rfl)]
  have hsec := h.good.now s (List.mem_of_getElem? hs)
  refine callP.use (Count_spec p1 64 c1 s w1 o1.cells hsec.1 o1.2.1 hsec.2) ?_
  rintro _ w3 ⟨rfl, x3⟩
  have x13 := x1.trans x3
  have eP := pgL_some hs
  have none_ : ∀ {w' : World}, Ex w w' → pgL d at_ = [] → Ret (fun v w' => ∃ p n c, v = .tuple #[.slice p n c, .int .i64 0] ∧ PIn w' p n c (pgL d at_) ∧ n ≤ 100 ∧ Ex w w') (.returned (.tuple #[.slice none 0 0, .int .i64 0])) w' := fun hx he => by
    refine Ret.mk ⟨none, 0, 0, rfl, ?_, by omega, hx⟩
    rw [he]
    exact ⟨rfl, Nat.le_refl _, [], rfl, rfl, fun i pg hi => by simp at hi⟩
  unfold cntR
  cases hok : hdrOk s with
  | false =>
    rw [hok, if_neg (fun h => by cases h.1)] at eP
    try dsimp only [dI_i64, dI_u8, dI_u16, dI_u32, dB_bool, dS_slice, dP_ptr, dT_tup, dA_agg, dStr_str, dF_f, dC_c, dM_m, optP_some, ga0, ga1, ga2, ga3, ga4, cond_true, cond_false, chk_true, Bool.not_true, Bool.not_false, Option.isNone_none, Option.isNone_some, List.toList_toArray]
    have e : (Cel.v64 (if false = true then [fld s 10 1, fld s 4 4, 0] else [0, 0, 11])).toArray = #[.int .i64 0, .int .i64 0, .int .i64 11] := rfl
    rw [e]
    try dsimp only [dI_i64, dI_u8, dI_u16, dI_u32, dB_bool, dS_slice, dP_ptr, dT_tup, dA_agg, dStr_str, dF_f, dC_c, dM_m, optP_some, ga0, ga1, ga2, ga3, ga4, cond_true, cond_false, chk_true, Bool.not_true, Bool.not_false, Option.isNone_none, Option.isNone_some, List.toList_toArray]
    rw [cond_pos (by rfl)]
    exact none_ x13 eP
  | true =>
    obtain ⟨hseq, hM⟩ := hdrOk_seq hok
    have hc12 := hdr_cnt hok
    have hcr := fld_range hsec.2 10
    have e : (Cel.v64 (if true = true then [fld s 10 1, fld s 4 4, 0] else [0, 0, 11])).toArray = #[.int .i64 (fld s 10 1), .int .i64 (fld s 4 4), .int .i64 0] := rfl
    rw [e]
    try dsimp only [dI_i64, dI_u8, dI_u16, dI_u32, dB_bool, dS_slice, dP_ptr, dT_tup, dA_agg, dStr_str, dF_f, dC_c, dM_m, optP_some, ga0, ga1, ga2, ga3, ga4, cond_true, cond_false, chk_true, Bool.not_true, Bool.not_false, Option.isNone_none, Option.isNone_some, List.toList_toArray]
    rw [cond_neg (by rfl)]
    refine callP.use (area_spec (q := fld s 4 4) ⟨by have := hseq.1; omega, by have := hseq.2; omega⟩ w3) ?_
    rintro _ w5 ⟨rfl, e5⟩
    obtain rfl := e5.symm
    try dsimp only [dI_i64, dI_u8, dI_u16, dI_u32, dB_bool, dS_slice, dP_ptr, dT_tup, dA_agg, dStr_str, dF_f, dC_c, dM_m, optP_some, ga0, ga1, ga2, ga3, ga4, cond_true, cond_false, chk_true, Bool.not_true, Bool.not_false, Option.isNone_none, Option.isNone_some, List.toList_toArray]
    refine cond_of (fun hne => ?_) (fun hne => ?_)
    · have hne : ¬ (fld s 4 4 % 2) * 12 = (at_ : Int) := by simpa using hne
      rw [if_neg (fun h => hne h.2)] at eP
      exact none_ x13 eP
    have hne : (fld s 4 4 % 2) * 12 = (at_ : Int) := by simpa using hne
    rw [hok, if_pos ⟨rfl, hne⟩] at eP
    refine Got.first x13 (o1.ex x3) hs fun b1 w7 hb1 hgot => ?_
    unfold slate_pages.l1
    refine ⟨fun t0 t1 t10p t10n t10c t39 t40 W => t0 = some ⟨pd, 0, none⟩ ∧ (at_ : Int) = t1 ∧ fld s 10 1 = t39 ∧ 0 ≤ t40 ∧ t40 ≤ fld s 10 1 ∧ Got w d at_ w.heap.size t10p t10n t10c (1 + t40.toNat) W, fun t0 t1 t10p t10n t10c t39 t40 W => (fld s 10 1 - t40).toNat, ⟨rfl, rfl, rfl, by omega, by omega, hgot⟩, ?_⟩
    rintro _ _ t10p t10n t10c _ t40 W ⟨rfl, rfl, rfl, i0, i1, hgot⟩
    unfold slate_pages.b1
    obtain ⟨j, rfl⟩ := Int.eq_ofNat_of_zero_le i0
    rw [Int.toNat_natCast] at hgot
    refine cond_of (fun hc => ?_) (fun hc => ?_)
    · have hc := of_decide_eq_true hc
      rw [w64 (x := (at_ : Int) + 1) (by omega) (by omega), w64 (x := (at_ : Int) + 1 + j) (by omega) (by omega)]
      refine callP.use ((h.ex hgot.ex).get (i := (at_ : Int) + 1 + j) (i' := at_ + (1 + j)) (by omega) (by omega)) ?_
      rintro _ w8 ⟨p2, c2, s2, hs2, rfl, o8, x8⟩
      try dsimp only [dI_i64, dI_u8, dI_u16, dI_u32, dB_bool, dS_slice, dP_ptr, dT_tup, dA_agg, dStr_str, dF_f, dC_c, dM_m, optP_some, ga0, ga1, ga2, ga3, ga4, cond_true, cond_false, chk_true, Bool.not_true, Bool.not_false, Option.isNone_none, Option.isNone_some, List.toList_toArray]
      rw [cond_neg (by rfl)]
      refine Got.next hgot x8 o8 hs2 (by omega) fun p' c' w' hg' => ?_
      have hnext : IntKind.i64.wrap ((j : Int) + 1) = ((j + 1 : Nat) : Int) := by rw [w64 (by omega) (by omega)]; rfl
      rw [hnext]
      exact ⟨⟨rfl, rfl, rfl, by omega, by omega, hg'⟩, by ((try dsimp only); omega)⟩
    · have hc := of_decide_eq_false hc
      have hj : j = (fld s 10 1).toNat := by omega
      subst hj
      have hp := hgot.pin
      rw [← eP] at hp
      refine Ret.mk ⟨t10p, t10n, t10c, rfl, hp, ?_, hgot.ex⟩
      have := hgot.num
      omega
theorem lpages_spec {w : World} {B pd : Nat} {d : Bas.Dev} {D : Nat → Prop} (h : Live w B pd d D) {at_ : Nat} (hat : at_ ≤ 12) : stopcocklaw14_pages.C (some ⟨pd, 0, none⟩) at_ w (Ret fun v w' => ∃ p n c, v = .slice p n c ∧ PIn w' p n c (pgL d at_) ∧ n ≤ 100 ∧ Ex w w') := by
  apply stopcocklaw14_pages.ok
  unfold stopcocklaw14_pages.main
  refine callP.use (h.get rfl (by omega)) ?_
  rintro _ w1 ⟨p1, c1, s, hs, rfl, o1, x1⟩
  try dsimp only [dI_i64, dI_u8, dI_u16, dI_u32, dB_bool, dS_slice, dP_ptr, dT_tup, dA_agg, dStr_str, dF_f, dC_c, dM_m, optP_some, ga0, ga1, ga2, ga3, ga4, cond_true, cond_false, chk_true, Bool.not_true, Bool.not_false, Option.isNone_none, Option.isNone_some, List.toList_toArray]
  have hsec := h.good.now s (List.mem_of_getElem? hs)
  refine callP.use (refCount_spec p1 64 c1 s w1 o1.cells hsec.1 o1.2.1 hsec.2) ?_
  rintro _ w3 ⟨rfl, x3⟩
  have x13 := x1.trans x3
  have eP := pgL_some hs
  have none_ : ∀ {w' : World}, Ex w w' → pgL d at_ = [] → Ret (fun v w' => ∃ p n c, v = .slice p n c ∧ PIn w' p n c (pgL d at_) ∧ n ≤ 100 ∧ Ex w w') (.returned (.slice none 0 0)) w' := fun hx he => by
    refine Ret.mk ⟨none, 0, 0, rfl, ?_, by omega, hx⟩
    rw [he]
    exact ⟨rfl, Nat.le_refl _, [], rfl, rfl, fun i pg hi => by simp at hi⟩
  unfold cntR
  cases hok : hdrOk s with
  | false =>
    rw [hok, if_neg (fun h => by cases h.1)] at eP
    have e : (Cel.v64 (if false = true then [fld s 10 1, fld s 4 4, 0] else [0, 0, 11])).toArray = #[.int .i64 0, .int .i64 0, .int .i64 11] := rfl
    rw [e]
    try dsimp only [dI_i64, dI_u8, dI_u16, dI_u32, dB_bool, dS_slice, dP_ptr, dT_tup, dA_agg, dStr_str, dF_f, dC_c, dM_m, optP_some, ga0, ga1, ga2, ga3, ga4, cond_true, cond_false, chk_true, Bool.not_true, Bool.not_false, Option.isNone_none, Option.isNone_some, List.toList_toArray]
    rw [cond_neg (by rfl), cond_pos (by rfl)]
    exact none_ x13 eP
  | true =>
    obtain ⟨hseq, hM⟩ := hdrOk_seq hok
    have hc12 := hdr_cnt hok
    have hcr := fld_range hsec.2 10
    have e : (Cel.v64 (if true = true then [fld s 10 1, fld s 4 4, 0] else [0, 0, 11])).toArray = #[.int .i64 (fld s 10 1), .int .i64 (fld s 4 4), .int .i64 0] := rfl
    rw [e]
    try dsimp only [dI_i64, dI_u8, dI_u16, dI_u32, dB_bool, dS_slice, dP_ptr, dT_tup, dA_agg, dStr_str, dF_f, dC_c, dM_m, optP_some, ga0, ga1, ga2, ga3, ga4, cond_true, cond_false, chk_true, Bool.not_true, Bool.not_false, Option.isNone_none, Option.isNone_some, List.toList_toArray]
    rw [cond_neg (by rfl), cond_neg (by rfl)]
    refine callP.use (larea_spec (q := fld s 4 4) ⟨by have := hseq.1; omega, by have := hseq.2; omega⟩ w3) ?_
    rintro _ w5 ⟨rfl, e5⟩
    obtain rfl := e5.symm
    try dsimp only [dI_i64, dI_u8, dI_u16, dI_u32, dB_bool, dS_slice, dP_ptr, dT_tup, dA_agg, dStr_str, dF_f, dC_c, dM_m, optP_some, ga0, ga1, ga2, ga3, ga4, cond_true, cond_false, chk_true, Bool.not_true, Bool.not_false, Option.isNone_none, Option.isNone_some, List.toList_toArray]
    refine cond_of (fun hne => ?_) (fun hne => ?_)
    · have hne : ¬ (fld s 4 4 % 2) * 12 = (at_ : Int) := by simpa using hne
      rw [if_neg (fun h => hne h.2)] at eP
      exact none_ x13 eP
    have hne : (fld s 4 4 % 2) * 12 = (at_ : Int) := by simpa using hne
    rw [hok, if_pos ⟨rfl, hne⟩] at eP
    refine Got.first x13 (o1.ex x3) hs fun b1 w7 hb1 hgot => ?_
    unfold stopcocklaw14_pages.l1
    refine ⟨fun t0 t1 t7 t10p t10n t10c t11 W => t0 = some ⟨pd, 0, none⟩ ∧ (at_ : Int) = t1 ∧ fld s 10 1 = t7 ∧ 1 ≤ t11 ∧ t11 ≤ fld s 10 1 + 1 ∧ Got w d at_ w.heap.size t10p t10n t10c t11.toNat W, fun t0 t1 t7 t10p t10n t10c t11 W => (fld s 10 1 + 1 - t11).toNat, ⟨rfl, rfl, rfl, by omega, by omega, hgot⟩, ?_⟩
    rintro _ _ _ t10p t10n t10c t11 W ⟨rfl, rfl, rfl, i0, i1, hgot⟩
    unfold stopcocklaw14_pages.b1
    obtain ⟨j, rfl⟩ := Int.eq_ofNat_of_zero_le (show 0 ≤ t11 by omega)
    rw [Int.toNat_natCast] at hgot
    refine cond_of (fun hc => ?_) (fun hc => ?_)
    · have hc := of_decide_eq_true hc
      rw [w64 (x := (at_ : Int) + j) (by omega) (by omega)]
      refine callP.use ((h.ex hgot.ex).get (i := (at_ : Int) + j) (i' := at_ + j) (by omega) (by omega)) ?_
      rintro _ w8 ⟨p2, c2, s2, hs2, rfl, o8, x8⟩
      try dsimp only [dI_i64, dI_u8, dI_u16, dI_u32, dB_bool, dS_slice, dP_ptr, dT_tup, dA_agg, dStr_str, dF_f, dC_c, dM_m, optP_some, ga0, ga1, ga2, ga3, ga4, cond_true, cond_false, chk_true, Bool.not_true, Bool.not_false, Option.isNone_none, Option.isNone_some, List.toList_toArray]
      rw [cond_neg (by rfl)]
      refine Got.next hgot x8 o8 hs2 (by omega) fun p' c' w' hg' => ?_
      have hnext : IntKind.i64.wrap ((j : Int) + 1) = ((j + 1 : Nat) : Int) := by rw [w64 (by omega) (by omega)]; rfl
      rw [hnext]
      exact ⟨⟨rfl, rfl, rfl, by omega, by omega, hg'⟩, by ((try dsimp only); omega)⟩
    · have hc := of_decide_eq_false hc
      have hj : j = 1 + (fld s 10 1).toNat := by omega
      subst hj
      have hp := hgot.pin
      rw [← eP] at hp
      refine Ret.mk ⟨t10p, t10n, t10c, rfl, hp, ?_, hgot.ex⟩
      have := hgot.num
      omega
end Go.Proofs.Ythgmebhkbbehmaa.G.Sl
