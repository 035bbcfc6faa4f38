/-
  slices.Equal and EqualFunc of any pages; leaf.Decode of any pages.
-/
import Derived.Test.YthgmebhkbbehmaaLeafT
namespace Go.Proofs.Ythgmebhkbbehmaa.G.En
open Go.Dec Go.RowKit
set_option linter.unusedVariables false
set_option linter.unusedSimpArgs false

/-- pages that lie there to be read -/
structure PIn (w : World) (P : Option Addr) (n c : Nat) (pgs : List (List Int)) : Prop where
  len : pgs.length = n
  room : n ≤ c
  at_ : ∃ ps : List Value, CellsO w P ps ∧ ps.length = n ∧ ∀ (i : Nat) (pg : List Int), pgs[i]? = some pg → ∃ (q : Option Addr) (m d : Nat), ps[i]? = some (.slice q m d) ∧ pg.length = m ∧ m ≤ d ∧ CellsO w q (v8 pg)
theorem PIn.ex {w w' : World} {P : Option Addr} {n c : Nat} {pgs : List (List Int)} (h : PIn w P n c pgs) (x : Ex w w') : PIn w' P n c pgs := by
  obtain ⟨h1, h2, ps, h3, h4, h5⟩ := h
  refine ⟨h1, h2, ps, h3.ex x, h4, fun i pg hi => ?_⟩
  obtain ⟨q, m, d, g1, g2, g3, g4⟩ := h5 i pg hi
  exact ⟨q, m, d, g1, g2, g3, g4.ex x⟩
theorem PIn.get {w : World} {P : Option Addr} {n c : Nat} {pgs : List (List Int)} (h : PIn w P n c pgs) {i : Nat} (hi : i < n) : ∃ a pg q d, P = some a ∧ pgs[i]? = some pg ∧ w.cell? (a.add i) = some (.slice q pg.length d) ∧ pg.length ≤ d ∧ CellsO w q (v8 pg) := by
  obtain ⟨h1, h2, ps, h3, h4, h5⟩ := h
  have hg := List.getElem?_eq_getElem (l := pgs) (i := i) (by omega)
  obtain ⟨q, m, d, g1, rfl, g3, g4⟩ := h5 i _ hg
  obtain ⟨a, ha, hr⟩ := h3.many g1
  exact ⟨a, _, q, d, ha, hg, hr, g3, g4⟩
theorem PIn.rest {w : World} {a : Addr} {n c : Nat} {pgs : List (List Int)} (h : PIn w (some a) n c pgs) (h1 : 1 ≤ n) : PIn w (slA (some a) c 1 1) (n - 1) (c - 1) pgs.tail := by
  obtain ⟨h1', h2, ps, h3, h4, h5⟩ := h
  refine ⟨by rw [List.length_tail]; omega, by omega, ps.tail, ?_, by rw [List.length_tail]; omega, fun i pg hi => ?_⟩
  · have := h3.slice c 1 ps.length (by omega)
    rw [List.take_of_length_le (by rw [List.length_drop]; omega), List.drop_one] at this
    exact this
  · rw [List.getElem?_tail] at hi ⊢
    exact h5 (i + 1) pg hi
theorem PgAt.pin {w : World} {B B' : Nat} {p : Option Addr} {n c : Nat} {ps : List Value} {pgs : List (List Int)} (o : Owns w B ty_sl_uint8 1 p n c ps) (h : PgAt w B' ps pgs) : PIn w p n c pgs := by
  have hl := o.1
  refine ⟨by have := h.len; omega, o.2.1, ps, o.cells, by omega, fun i pg hi => ?_⟩
  obtain ⟨q, d, g1, g2⟩ := h.row i pg hi
  exact ⟨q, 64, d, g1, own_len g2, g2.2.1, g2.cells⟩

/-! ### Equal -/
theorem take_eq_all {α : Type} {xs ys : List α} {n : Nat} (h1 : xs.length = n) (h2 : ys.length = n) (h : xs.take n = ys.take n) : xs = ys := by
  rwa [List.take_of_length_le (by omega), List.take_of_length_le (by omega)] at h
theorem Eq_gen (p q : Option Addr) (n m c d : Nat) (xs ys : List Int) (w : World) (hc : CellsO w p (v8 xs)) (hd : CellsO w q (v8 ys)) (hn : xs.length = n) (hm : ys.length = m) (hl : n ≤ 1000000) : slices_Equal_byte_byte.C p n c q m d w (Ret fun v w' => v = .bool (decide (xs = ys)) ∧ Ex w w') := by
  apply slices_Equal_byte_byte.ok
  unfold slices_Equal_byte_byte.main
  refine cond_of (fun h => ?_) (fun h => ?_)
  · have h : ¬ (n : Int) = m := by simpa using h
    have h : ¬ n = m := by omega
    exact Ret.mk ⟨by rw [decide_eq_false (fun e => h (by rw [← hn, ← hm, e]))], Ex.refl w⟩
  have h : (n : Int) = m := by simpa using h
  obtain rfl : n = m := by omega
  unfold slices_Equal_byte_byte.l1
  refine ⟨fun t0p t0n t0c t1p t1n t1c t12 t13 w' => p = t0p ∧ n = t0n ∧ c = t0c ∧ q = t1p ∧ n = t1n ∧ d = t1c ∧ (n : Int) = t12 ∧ 0 ≤ t13 ∧ t13 ≤ n ∧ xs.take t13.toNat = ys.take t13.toNat ∧ Ex w w', fun t0p t0n t0c t1p t1n t1c t12 t13 w' => (n - t13).toNat, ⟨rfl, rfl, rfl, rfl, rfl, rfl, rfl, by omega, by omega, rfl, Ex.refl w⟩, ?_⟩
  rintro _ _ _ _ _ _ _ t13 w' ⟨rfl, rfl, rfl, rfl, rfl, rfl, rfl, h0, h1, he, hx⟩
  unfold slices_Equal_byte_byte.b1
  obtain ⟨j, rfl⟩ := Int.eq_ofNat_of_zero_le h0
  rw [Int.toNat_natCast] at he
  refine cond_of (fun h => ?_) (fun h => ?_)
  · have h := of_decide_eq_true h
    have hjx : j < xs.length := by omega
    have hjy : j < ys.length := by omega
    obtain ⟨a, rfl, ra⟩ := map_get (hc.ex hx) hjx
    obtain ⟨b, rfl, rb⟩ := map_get (hd.ex hx) hjy
    refine chk_of (decide_eq_true h0) (chk_of (decide_eq_true h) ?_)
    try dsimp only [dI_i64, dI_u8, dI_u16, dI_u32, dB_bool, dS_slice, dP_ptr, dT_tup, dA_agg, dStr_str, dF_f, dC_c, dM_m, optP_some, ga0, ga1, ga2, ga3, ga4, cond_true, cond_false, chk_true, Bool.not_true, Bool.not_false, Option.isNone_none, Option.isNone_some, List.toList_toArray]
    rw [Int.toNat_natCast, Nat.mul_one]
    refine ⟨xs[j], ra, chk_of (decide_eq_true h0) (chk_of (decide_eq_true h) ?_)⟩
    try dsimp only [dI_i64, dI_u8, dI_u16, dI_u32, dB_bool, dS_slice, dP_ptr, dT_tup, dA_agg, dStr_str, dF_f, dC_c, dM_m, optP_some, ga0, ga1, ga2, ga3, ga4, cond_true, cond_false, chk_true, Bool.not_true, Bool.not_false, Option.isNone_none, Option.isNone_some, List.toList_toArray]
    refine ⟨ys[j], rb, fun k => ?_⟩
    refine cond_of (fun hne => ?_) (fun hne => ?_)
    · have hne : ¬ xs[j] = ys[j] := by simpa using hne
      exact Ret.mk ⟨by rw [decide_eq_false (fun e => hne (by subst e; rfl))], hx.trans (Ex.drewN _ _)⟩
    · have hne : xs[j] = ys[j] := by simpa using hne
      rw [w64 (by omega) (by omega)]
      refine ⟨⟨rfl, rfl, rfl, rfl, rfl, rfl, rfl, by omega, by omega, ?_, hx.trans (Ex.drewN _ _)⟩, by ((try dsimp only); omega)⟩
      have : ((j : Int) + 1).toNat = j + 1 := by omega
      rw [this, List.take_succ_eq_append_getElem hjx, List.take_succ_eq_append_getElem hjy, he, hne]
  · have h := of_decide_eq_false h
    have : j = n := by omega
    subst this
    exact Ret.mk ⟨by rw [decide_eq_true (take_eq_all hn hm he)], hx⟩
theorem EqualFunc_gen {w : World} {p q : Option Addr} {n m c d : Nat} {ag bs : List (List Int)} (ha : PIn w p n c ag) (hb : PIn w q m d bs) (hn : n ≤ 1000000) (ho : ∀ pg ∈ ag, pg.length ≤ 1000000) :
    slices_EqualFunc_byte_byte_byte_byte_f38.C p n c q m d w (Ret fun v w' => v = .bool (decide (ag = bs)) ∧ Ex w w') := by
  apply slices_EqualFunc_byte_byte_byte_byte_f38.ok
  unfold slices_EqualFunc_byte_byte_byte_byte_f38.main
  have hla := ha.len
  have hlb := hb.len
  refine cond_of (fun h => ?_) (fun h => ?_)
  · have h : ¬ (n : Int) = m := by simpa using h
    have h : ¬ n = m := by omega
    exact Ret.mk ⟨by rw [decide_eq_false (fun e => h (by rw [← hla, ← hlb, e]))], Ex.refl w⟩
  have h : (n : Int) = m := by simpa using h
  obtain rfl : n = m := by omega
  unfold slices_EqualFunc_byte_byte_byte_byte_f38.l1
  refine ⟨fun t1p t1n t1c t15p t15n t15c t16 t17 w' => q = t1p ∧ n = t1n ∧ d = t1c ∧ p = t15p ∧ n = t15n ∧ c = t15c ∧ (n : Int) = t16 ∧ 0 ≤ t17 ∧ t17 ≤ n ∧ ag.take t17.toNat = bs.take t17.toNat ∧ Ex w w', fun t1p t1n t1c t15p t15n t15c t16 t17 w' => (n - t17).toNat, ⟨rfl, rfl, rfl, rfl, rfl, rfl, rfl, by omega, by omega, rfl, Ex.refl w⟩, ?_⟩
  rintro _ _ _ _ _ _ _ t17 w' ⟨rfl, rfl, rfl, rfl, rfl, rfl, rfl, h0, h1, he, hx⟩
  unfold slices_EqualFunc_byte_byte_byte_byte_f38.b1
  obtain ⟨j, rfl⟩ := Int.eq_ofNat_of_zero_le h0
  rw [Int.toNat_natCast] at he
  refine cond_of (fun h => ?_) (fun h => ?_)
  · have hlt := of_decide_eq_true h
    have hj : j < n := by omega
    obtain ⟨a, pa, qa, da, rfl, ga, ra, la, ca⟩ := (ha.ex hx).get hj
    obtain ⟨b, pb, qb, db, rfl, gb, rb, lb, cb⟩ := (hb.ex hx).get hj
    refine chk_of (decide_eq_true h0) (chk_of (decide_eq_true hlt) ?_)
    try dsimp only [dI_i64, dI_u8, dI_u16, dI_u32, dB_bool, dS_slice, dP_ptr, dT_tup, dA_agg, dStr_str, dF_f, dC_c, dM_m, optP_some, ga0, ga1, ga2, ga3, ga4, cond_true, cond_false, chk_true, Bool.not_true, Bool.not_false, Option.isNone_none, Option.isNone_some, List.toList_toArray]
    rw [Int.toNat_natCast, Nat.mul_one]
    refine ⟨qa, _, da, ra, chk_of (decide_eq_true h0) (chk_of (decide_eq_true hlt) ?_)⟩
    try dsimp only [dI_i64, dI_u8, dI_u16, dI_u32, dB_bool, dS_slice, dP_ptr, dT_tup, dA_agg, dStr_str, dF_f, dC_c, dM_m, optP_some, ga0, ga1, ga2, ga3, ga4, cond_true, cond_false, chk_true, Bool.not_true, Bool.not_false, Option.isNone_none, Option.isNone_some, List.toList_toArray]
    refine ⟨qb, _, db, rb, ?_⟩
    refine callP.use (Eq_gen qa qb _ _ da db pa pb w' ca cb rfl rfl (ho _ (List.mem_of_getElem? ga))) ?_
    rintro _ w2 ⟨rfl, x2⟩
    try dsimp only [dI_i64, dI_u8, dI_u16, dI_u32, dB_bool, dS_slice, dP_ptr, dT_tup, dA_agg, dStr_str, dF_f, dC_c, dM_m, optP_some, ga0, ga1, ga2, ga3, ga4, cond_true, cond_false, chk_true, Bool.not_true, Bool.not_false, Option.isNone_none, Option.isNone_some, List.toList_toArray]
    refine cond_of (fun hne => ?_) (fun hne => ?_)
    · have hne : ¬ pa = pb := by simpa using hne
      refine Ret.mk ⟨?_, hx.trans x2⟩
      rw [decide_eq_false]
      intro e
      subst e
      rw [ga] at gb
      exact hne (Option.some.inj gb)
    · have hne : pa = pb := by simpa using hne
      rw [w64 (by omega) (by omega)]
      refine ⟨⟨rfl, rfl, rfl, rfl, rfl, rfl, rfl, by omega, by omega, ?_, hx.trans x2⟩, by ((try dsimp only); omega)⟩
      have : ((j : Int) + 1).toNat = j + 1 := by omega
      rw [this, List.take_add_one, List.take_add_one, he, ga, gb, hne]
  · have h := of_decide_eq_false h
    have : j = n := by omega
    subst this
    exact Ret.mk ⟨by rw [decide_eq_true (take_eq_all hla hlb he)], hx⟩

/-! ### What pages say -/
def hd0 (pgs : List (List Int)) : List Int := pgs.headD []
def sO (pgs : List (List Int)) : Int := fld (hd0 pgs) 8 1
def kO (pgs : List (List Int)) : Int := fld (hd0 pgs) 9 1
def qO (pgs : List (List Int)) : Int := fld (hd0 pgs) 4 4
/-- how many bytes a page says that it has -/
def said (pg : List Int) : Int := ((pg.take 60)[5]?).getD 0
def partOf (pg : List Int) : List Int := ((pg.take 60).drop 6).take (said pg).toNat
def leafOk (pg : List Int) : Bool := decide (opnE pg = 0) && decide (said pg ≤ 52)
def txt (pgs : List (List Int)) : List Int := pgs.tail.flatMap partOf
def stO (pgs : List (List Int)) : Sta := (rdR (kO pgs) (txt pgs) 8).1
structure Good (pgs : List (List Int)) : Prop where
  n1 : 1 ≤ pgs.length
  n12 : pgs.length ≤ 12
  hdr : hdrOk (hd0 pgs) = true
  cnt : fld (hd0 pgs) 10 1 = (pgs.length : Int) - 1
  leaves : ∀ pg ∈ pgs.tail, leafOk pg = true
  all : okAll (kO pgs) (txt pgs) = true
  fit : FitR (sO pgs) (kO pgs) (stO pgs)
  same : laidAs (sO pgs) (kO pgs) (qO pgs) (pay (kO pgs) (stO pgs)) = pgs
theorem hdrOk_seq {pg : List Int} (h : hdrOk pg = true) : okSeq (fld pg 4 4) ∧ hasMagic pg := by
  unfold hdrOk at h
  simp only [Bool.and_eq_true, decide_eq_true_eq] at h
  exact ⟨⟨h.1.1.2, h.1.2⟩, h.1.1.1⟩
theorem said_range {pg : List Int} (hb : Bytes pg) : 0 ≤ said pg ∧ said pg < 256 := by
  unfold said
  cases h : (pg.take 60)[5]? with
  | none => exact ⟨by decide, by decide⟩
  | some x => exact hb x (List.mem_of_mem_take (List.mem_of_getElem? h))
theorem fld_range {pg : List Int} (hb : Bytes pg) (a : Int) : 0 ≤ fld pg a 1 ∧ fld pg a 1 < 256 := by
  unfold fld Cel.getN
  split
  · split
    · have h := Cel.num_bound (((pg.take 60).drop a.toNat).take (1 : Int).toNat) (((hb.take _).drop _).take _)
      have hl : (((pg.take 60).drop a.toNat).take (1 : Int).toNat).length ≤ 1 := List.length_take_le _ _
      have := Cel.pow256_mono hl
      omega
    · omega
  · omega
def none4 : Value := .tuple #[.agg zst.toArray, .agg (two 0 0).toArray, .int .i64 0, .int .i64 11]
/-- what leaf.Decode answers -/
def DecRes (pgs : List (List Int)) (w : World) (v : Value) (w' : World) : Prop :=
  Ex w w' ∧ ((Good pgs ∧ ∃ ps, v = .tuple #[.agg (stC (stO pgs) ps).toArray, .agg (two (sO pgs) (kO pgs)).toArray, .int .i64 (qO pgs), .int .i64 0] ∧ StO w' (stO pgs) ps) ∨ (¬ Good pgs ∧ v = none4))
theorem bad_main {pgs : List (List Int)} {w W : World} {b1 b2 : Nat} (hx : Ex w W) (h1 : w.heap.size ≤ b1) (h2 : w.heap.size ≤ b2) (o1 : Owns W 0 ty_api_State 24 (some ⟨b1, 0, none⟩) 1 1 zst) (o2 : Owns W 0 ty_api_Plat 2 (some ⟨b2, 0, none⟩) 1 1 (two 0 0)) (hn : ¬ Good pgs) :
    ∃ (cs1 : Array Value), cs1.size = 24 ∧ CellsAt W (⟨b1, 0, none⟩ : Addr) cs1.toList ∧
    (∃ (cs2 : Array Value), cs2.size = 2 ∧ CellsAt W (⟨b2, 0, none⟩ : Addr) cs2.toList ∧
      (chk (decide (cs1.size = 24)) (
          Wr W (⟨b1, 0, none⟩ : Addr) cs1.toList ∧ ∀ w3, w3 = W.setCells (⟨b1, 0, none⟩ : Addr).block (⟨b1, 0, none⟩ : Addr).off cs1.toList →
          (chk (decide (cs2.size = 2)) (
              CellsAt w3 (⟨b2, 0, none⟩ : Addr) cs2.toList ∧
              (chk (decide (cs2.size = 2)) (
                  Wr w3 (⟨b2, 0, none⟩ : Addr) cs2.toList ∧ ∀ w4, w4 = w3.setCells (⟨b2, 0, none⟩ : Addr).block (⟨b2, 0, none⟩ : Addr).off cs2.toList →
                  (∃ (cs3 : Array Value), cs3.size = 24 ∧ CellsAt w4 (⟨b1, 0, none⟩ : Addr) cs3.toList ∧
                    (∃ (cs4 : Array Value), cs4.size = 2 ∧ CellsAt w4 (⟨b2, 0, none⟩ : Addr) cs4.toList ∧
                      (Ret (DecRes pgs w) (.returned (Value.tuple #[(Value.agg cs3), (Value.agg cs4), (Value.int .i64 0), (Value.int .i64 11)])) w4)))))))))) := by
  refine ⟨zst.toArray, rfl, o1.cells, (two 0 0).toArray, rfl, o2.cells, chk_of (by rfl) ?_⟩
  have t1 : ∀ i, i = b1 → Typed W ty_api_State i := fun i hi => by rw [hi]; exact (o1.typed rfl).1
  refine o1.put (cs := zst) (by rfl) zst_one fun w3 k3 o3 => ?_
  have o2' := o2.away k3 ty_api_State t1 (by decide)
  refine chk_of (by rfl) ⟨o2'.cells, chk_of (by rfl) ?_⟩
  have t2 : ∀ i, i = b2 → Typed w3 ty_api_Plat i := fun i hi => by rw [hi]; exact (o2'.typed rfl).1
  refine o2'.put (cs := two 0 0) (by rfl) two_one fun w4 k4 o4 => ?_
  refine ⟨zst.toArray, rfl, (o3.away k4 ty_api_Plat t2 (by decide)).cells, (two 0 0).toArray, rfl, o4.cells, Ret.mk ⟨(hx.then k3 fun i hi => by omega).then k4 fun i hi => by omega, .inr ⟨hn, rfl⟩⟩⟩
theorem hd_len (s k q : Int) (t : List Int) : (laidAs s k q t).length = 1 + cnt t.length := by
  unfold laidAs
  rw [List.length_cons, lv_len, List.length_range]
  omega
theorem laid64 {s k q : Int} {t : List Int} : ∀ pg ∈ laidAs s k q t, pg.length = 64 := fun pg h => by
  unfold laidAs at h
  rcases List.mem_cons.1 h with rfl | h
  · exact sealed_length (by rw [hdT_len]; omega)
  · unfold lv at h
    obtain ⟨i, hi, rfl⟩ := List.mem_mapIdx.1 h
    refine sealed_length ?_
    rw [lfT_len, chunk_len]
    unfold clen
    omega
end Go.Proofs.Ythgmebhkbbehmaa.G.En
namespace Go.Proofs.Ythgmebhkbbehmaa.G.En
open Go.Dec Go.RowKit
set_option linter.unusedVariables false
set_option linter.unusedSimpArgs false

theorem zst_new (w1 : World) : w1.alloc (.cells #[.int .i64 0, .int .i64 0, .int .i64 0, .int .i64 0, .int .i64 0, .int .i64 0, .int .i64 0, .int .i64 0, .int .i64 0, .int .i64 0, .int .i64 0, .int .i64 0, .int .i64 0, .int .i64 0, .int .i64 0, .int .i64 0, .slice none 0 0, .slice none 0 0, .slice none 0 0, .slice none 0 0, .slice none 0 0, .slice none 0 0, .slice none 0 0, .slice none 0 0] ty_api_State) = w1.alloc (.cells zst.toArray ty_api_State) := rfl
theorem two_new (w1 : World) (a b : Int) : w1.alloc (.cells #[.int .i64 a, .int .i64 b] ty_api_Plat) = w1.alloc (.cells (two a b).toArray ty_api_Plat) := rfl
theorem part_cells {w : World} {B : Nat} {p : Option Addr} {c : Nat} {pg : List Int} (o : Owns w B ty_uint8 1 p 60 c (v8 (pg.take 60))) : CellsO w (slA p c 6 1) (v8 (partOf pg)) := by
  have hl := own_len o
  have := o.cells.slice c 6 (said pg).toNat (by rw [v8_len, hl]; exact o.2.1)
  unfold partOf v8
  rw [List.map_take, List.map_drop]
  exact this
theorem part_len {pg : List Int} (h : (pg.take 60).length = 60) (hs : 0 ≤ said pg ∧ said pg ≤ 52) : (partOf pg).length = (said pg).toNat := by
  unfold partOf
  rw [List.length_take, List.length_drop, h]
  omega
theorem said_at {pg : List Int} (h : (pg.take 60).length = 60) : (v8 (pg.take 60))[5]? = some (.int .u8 (said pg)) := by
  unfold said v8
  rw [List.getElem?_map, List.getElem?_eq_getElem (show 5 < (pg.take 60).length by omega)]
  rfl
theorem tail_take {pgs : List (List Int)} {j : Nat} {pg : List Int} (h : pgs.tail[j]? = some pg) : (pgs.tail.take (j + 1)).flatMap partOf = (pgs.tail.take j).flatMap partOf ++ partOf pg := by
  obtain ⟨hj, rfl⟩ := List.getElem?_eq_some_iff.1 h
  rw [List.take_succ_eq_append_getElem hj, List.flatMap_append]
  simp
theorem Decode_all {w : World} {P : Option Addr} {n c : Nat} {pgs : List (List Int)} (hp : PIn w P n c pgs) (hb : ∀ pg ∈ pgs, Bytes pg) (hn : n ≤ 9223372036854775807) : leaf_Decode.C P n c w (Ret (DecRes pgs w)) := by
  have hlen := hp.len
  apply leaf_Decode.ok
  unfold leaf_Decode.main
  rintro b1 w1 rfl rfl b2 w2 rfl rfl
  rw [zst_new, two_new]
  have o1 := (Owns.new (w := w) zst ty_api_State).lower (Nat.zero_le _)
  have x1 := Ex.alloc w (.cells zst.toArray ty_api_State)
  have hb1 : w.heap.size ≤ w.heap.size := Nat.le_refl _
  generalize hb1e : w.heap.size = b1 at o1 hb1 ⊢
  generalize w.alloc (.cells zst.toArray ty_api_State) = w1 at o1 x1 ⊢
  have o2 := (Owns.new (w := w1) (two 0 0) ty_api_Plat).lower (Nat.zero_le _)
  have x2 := Ex.alloc w1 (.cells (two 0 0).toArray ty_api_Plat)
  have hb2 : w.heap.size ≤ w1.heap.size := x1.size
  have h12 : b1 < w1.heap.size := (o1.ge rfl).2
  generalize w1.heap.size = b2 at o2 hb2 h12 ⊢
  generalize w1.alloc (.cells (two 0 0).toArray ty_api_Plat) = w2 at o2 x2 ⊢
  have o1 := o1.ex x2
  have hx2 := x1.trans x2
  clear x1 x2
  have hb1' : w.heap.size ≤ b1 := by omega
  have bad : ∀ {W : World}, Ex w2 W → ¬ Good pgs → _ := fun {W} hx hn => bad_main (pgs := pgs) (hx2.trans hx) hb1' hb2 (o1.ex hx) (o2.ex hx) hn
  refine cond_of (fun hc => ?_) (fun hc => ?_)
  · have hc : (n : Int) = 0 := by simpa using hc
    exact bad (Ex.drew _) (fun g => by have := g.n1; omega)
  have hc : ¬ (n : Int) = 0 := by simpa using hc
  refine cond_of (fun hc2 => ?_) (fun hc2 => ?_)
  · have hc2 := of_decide_eq_true hc2
    exact bad (Ex.drew _) (fun g => by have := g.n12; omega)
  have hc2 := of_decide_eq_false hc2
  refine chk_of (decide_eq_true (by omega)) ?_
  have hp2 := hp.ex hx2
  obtain ⟨a, pg0, q0, d0, rfl, hg0, r0, hd0l, hcp0⟩ := hp2.get (i := 0) (by omega)
  have hH : hd0 pgs = pg0 := by
    unfold hd0
    rw [List.headD_eq_head?_getD, List.head?_eq_getElem?, hg0]
    rfl
  have hbp0 := hb pg0 (List.mem_of_getElem? hg0)
  try dsimp only [dI_i64, dI_u8, dI_u16, dI_u32, dB_bool, dS_slice, dP_ptr, dT_tup, dA_agg, dStr_str, dF_f, dC_c, dM_m, optP_some, ga0, ga1, ga2, ga3, ga4, cond_true, cond_false, chk_true, Bool.not_true, Bool.not_false, Option.isNone_none, Option.isNone_some, List.toList_toArray]
  rw [show a.add 0 = a from Addr.add_zero' a] at r0
  refine ⟨q0, pg0.length, d0, r0, ?_⟩
  refine callP.use (read_spec q0 pg0.length d0 pg0 w2 hcp0 rfl hd0l hbp0) ?_
  rintro _ w7 ⟨rfl, x7⟩
  try dsimp only [dI_i64, dI_u8, dI_u16, dI_u32, dB_bool, dS_slice, dP_ptr, dT_tup, dA_agg, dStr_str, dF_f, dC_c, dM_m, optP_some, ga0, ga1, ga2, ga3, ga4, cond_true, cond_false, chk_true, Bool.not_true, Bool.not_false, Option.isNone_none, Option.isNone_some, List.toList_toArray]
  rintro b4 w9 rfl rfl
  have o4 := Owns.new (w := w7) (Cel.v64 [0, 0, 0, 0, 0]) ty_leaf_header
  have x9 := Ex.alloc w7 (.cells (Cel.v64 [0, 0, 0, 0, 0]).toArray ty_leaf_header)
  have e4 : w7.alloc (.cells #[.int .i64 0, .int .i64 0, .int .i64 0, .int .i64 0, .int .i64 0] ty_leaf_header) = w7.alloc (.cells (Cel.v64 [0, 0, 0, 0, 0]).toArray ty_leaf_header) := rfl
  rw [e4]
  have hb4 : w2.heap.size ≤ w7.heap.size := x7.size
  generalize w7.heap.size = b4 at o4 hb4 ⊢
  generalize w7.alloc (.cells (Cel.v64 [0, 0, 0, 0, 0]).toArray ty_leaf_header) = w9 at o4 x9 ⊢
  have hlh : (Cel.v64 (hdrC pg0)).length = 5 := by unfold Cel.v64; rw [List.length_map]; exact hdrC_len pg0
  refine chk_of (decide_eq_true (by rw [List.size_toArray]; exact hlh)) ?_
  refine o4.put (cs := Cel.v64 (hdrC pg0)) hlh (v64_one _) fun w10 k10 o10 => ?_
  have x10 : Ex w2 w10 := (x7.trans x9).then k10 fun i hi => by omega
  cases hok : hdrOk pg0 with
  | false =>
    rw [cond_pos (by rfl)]
    exact bad (x10.trans (Ex.drew _)) (fun g => by have := g.hdr; rw [hH, hok] at this; cases this)
  | true =>
  obtain ⟨hseq, hM⟩ := hdrOk_seq hok
  have eC : hdrC pg0 = [fld pg0 4 4, fld pg0 8 1, fld pg0 9 1, fld pg0 10 1, fld pg0 11 2] := by unfold hdrC; rw [if_pos hM]
  rw [eC] at o10
  rw [cond_neg (by rfl)]
  refine ⟨fld pg0 10 1, o10.at (by rfl), ?_⟩
  rw [w64 (x := (n : Int) - 1) (by omega) (by omega)]
  refine cond_of (fun hc3 => ?_) (fun hc3 => ?_)
  · have hc3 : ¬ fld pg0 10 1 = (n : Int) - 1 := by simpa using hc3
    exact bad (x10.trans (Ex.drew _)) (fun g => by have := g.cnt; rw [hH, hlen] at this; exact hc3 this)
  have hc3 : fld pg0 10 1 = (n : Int) - 1 := by simpa using hc3
  refine chk_of (decide_eq_true (by omega)) ?_
  have hp10 := hp2.ex x10
  have hrest := hp10.rest (by omega)
  have hx10 := hx2.trans x10
  have hbt : ∀ pg ∈ pgs.tail, Bytes pg := fun pg h => hb pg (List.mem_of_mem_tail h)
  have htl : pgs.tail.length = n - 1 := by rw [List.length_tail, hlen]
  have hlow10 : w.heap.size ≤ w10.heap.size := hx10.size
  unfold leaf_Decode.l1
  refine ⟨fun t0p t0n t0c t2 t3 t6 t8p t8n t8c t46p t46n t46c t47 t48 w' => t0p = some a ∧ n = t0n ∧ c = t0c ∧ b1 = t2 ∧ b2 = t3 ∧ b4 = t6 ∧ slA (some a) c 1 1 = t46p ∧ n - 1 = t46n ∧ ((n - 1 : Nat) : Int) = t47 ∧ 0 ≤ t48 ∧ t48 ≤ ((n - 1 : Nat) : Int) ∧ Ex w10 w' ∧ (∀ j pg, j < t48.toNat → pgs.tail[j]? = some pg → leafOk pg = true) ∧ ((pgs.tail.take t48.toNat).flatMap partOf).length = t8n ∧ t8n ≤ t48.toNat * 52 ∧ Owns w' w10.heap.size ty_uint8 1 t8p t8n t8c (v8 ((pgs.tail.take t48.toNat).flatMap partOf)),
    fun t0p t0n t0c t2 t3 t6 t8p t8n t8c t46p t46n t46c t47 t48 w' => ((n - 1 : Nat) - t48).toNat, ⟨rfl, rfl, rfl, rfl, rfl, rfl, rfl, rfl, rfl, by omega, by omega, Ex.refl _, fun j pg hj => by simp at hj, rfl, Nat.zero_le _, Owns.nil _ _ _ _⟩, ?_⟩
  rintro _ _ _ _ _ _ t8p t8n t8c _ _ t46c _ t48 w' ⟨rfl, rfl, rfl, rfl, rfl, rfl, rfl, rfl, rfl, i0, i1, hx, hlv, htn, ht52, o8⟩
  unfold leaf_Decode.b1
  obtain ⟨j, rfl⟩ := Int.eq_ofNat_of_zero_le i0
  rw [Int.toNat_natCast] at hlv htn ht52 o8
  have badx : ∀ {W : World}, Ex w' W → ¬ Good pgs → _ := fun {W} hx' hn => bad (x10.trans (hx.trans hx')) hn
  refine cond_of (fun hcj => ?_) (fun hcj => ?_)
  · have hcj := of_decide_eq_true hcj
    have hj : j < n - 1 := by omega
    refine chk_of (decide_eq_true i0) (chk_of (decide_eq_true hcj) ?_)
    obtain ⟨a2, pg, q, d, ea2, hg, r2, hd, hcp⟩ := (hrest.ex hx).get hj
    rw [ea2]
    try dsimp only [dI_i64, dI_u8, dI_u16, dI_u32, dB_bool, dS_slice, dP_ptr, dT_tup, dA_agg, dStr_str, dF_f, dC_c, dM_m, optP_some, ga0, ga1, ga2, ga3, ga4, cond_true, cond_false, chk_true, Bool.not_true, Bool.not_false, Option.isNone_none, Option.isNone_some, List.toList_toArray]
    rw [Int.toNat_natCast, Nat.mul_one]
    refine ⟨q, pg.length, d, r2, ?_⟩
    have hmem := List.mem_of_getElem? hg
    have hbpg := hbt pg hmem
    refine callP.use (Open_spec q pg.length d pg w' hcp rfl hd hbpg) ?_
    rintro _ w15 ⟨q', m, d', rfl, hm, oq, x15⟩
    try dsimp only [dI_i64, dI_u8, dI_u16, dI_u32, dB_bool, dS_slice, dP_ptr, dT_tup, dA_agg, dStr_str, dF_f, dC_c, dM_m, optP_some, ga0, ga1, ga2, ga3, ga4, cond_true, cond_false, chk_true, Bool.not_true, Bool.not_false, Option.isNone_none, Option.isNone_some, List.toList_toArray]
    have noleaf : leafOk pg = false → ¬ Good pgs := fun h g => by have := g.leaves pg hmem; rw [h] at this; cases this
    refine cond_of (fun ho => ?_) (fun ho => ?_)
    · have ho : ¬ opnE pg = 0 := by simpa using ho
      exact badx (x15.trans (Ex.drew _)) (noleaf (by unfold leafOk; rw [decide_eq_false ho]; rfl))
    have ho : opnE pg = 0 := by simpa using ho
    obtain ⟨h64, hB⟩ := open_ok ho
    rw [hB] at oq
    have ht60 : (pg.take 60).length = 60 := by rw [List.length_take, h64]; rfl
    have hm60 : m = 60 := by have := own_len oq; omega
    subst hm60
    have hsr := said_range hbpg
    obtain ⟨a3, rfl, r3⟩ := oq.cells.many (said_at ht60)
    refine chk_of (by decide) ?_
    try dsimp only [dI_i64, dI_u8, dI_u16, dI_u32, dB_bool, dS_slice, dP_ptr, dT_tup, dA_agg, dStr_str, dF_f, dC_c, dM_m, optP_some, ga0, ga1, ga2, ga3, ga4, cond_true, cond_false, chk_true, Bool.not_true, Bool.not_false, Option.isNone_none, Option.isNone_some, List.toList_toArray]
    refine ⟨said pg, r3, ?_⟩
    refine cond_of (fun h52 => ?_) (fun h52 => ?_)
    · have h52 := of_decide_eq_true h52
      exact badx (x15.trans (Ex.drew _)) (noleaf (by unfold leafOk; rw [decide_eq_false (show ¬ said pg ≤ 52 by omega), Bool.and_false]))
    have h52 := of_decide_eq_false h52
    refine chk_of (by decide) ⟨said pg, r3, ?_⟩
    have ew : IntKind.u8.wrap (6 + said pg) = 6 + said pg := by rw [wu8]; omega
    rw [ew]
    have hcap := oq.2.1
    refine chk_of (decide_eq_true (by omega)) (chk_of (decide_eq_true (by omega)) (chk_of (decide_eq_true (by omega)) ?_))
    have e6 : (6 + said pg).toNat - 6 = (said pg).toNat := by omega
    rw [e6]
    have hpl := part_len ht60 ⟨hsr.1, by omega⟩
    refine appP_own (B := w10.heap.size) (o8.ex x15) (hx.trans x15).size (v8 (partOf pg)) (part_cells oq) (by rw [v8_len, hpl, Nat.mul_one]) (v8_one _) rfl (by omega) (by omega) ?_
    intro p4 c4 w21 o21 k21
    rw [v8_app, ← tail_take hg] at o21
    have hnext : IntKind.i64.wrap ((j : Int) + 1) = ((j + 1 : Nat) : Int) := by rw [w64 (by omega) (by omega)]; rfl
    have htn1 : ((j + 1 : Nat) : Int).toNat = j + 1 := rfl
    rw [hnext]
    refine ⟨⟨rfl, rfl, rfl, rfl, rfl, rfl, rfl, rfl, rfl, by omega, by omega, (hx.trans x15).then k21 fun i ⟨y, e, hi⟩ => by have := (o8.ge e).1; omega, ?_, ?_, ?_, by rw [htn1]; exact o21⟩, by ((try dsimp only); omega)⟩
    · intro j' pg' hj' hg'
      rw [htn1] at hj'
      by_cases he : j' = j
      · subst he
        rw [hg] at hg'
        cases hg'
        unfold leafOk
        rw [decide_eq_true ho, decide_eq_true (show said pg ≤ 52 by omega)]
        rfl
      · exact hlv j' pg' (by omega) hg'
    · rw [htn1, tail_take hg, List.length_append, htn, hpl]
    · rw [htn1]; omega
  · have hcj := of_decide_eq_false hcj
    obtain rfl : j = n - 1 := by omega
    have etx : (pgs.tail.take (n - 1)).flatMap partOf = txt pgs := by unfold txt; rw [List.take_of_length_le (by omega)]
    rw [etx] at htn o8
    have hlv : ∀ pg ∈ pgs.tail, leafOk pg = true := fun pg h => by
      obtain ⟨j, hj⟩ := List.getElem?_of_mem h
      exact hlv j pg (by have := (List.getElem?_eq_some_iff.1 hj).1; omega) hj
    unfold leaf_Decode.k1
    have o10' := o10.ex hx
    have o1 := o1.ex (x10.trans hx)
    have o2 := o2.ex (x10.trans hx)
    have ek : kO pgs = fld pg0 9 1 := by unfold kO; rw [hH]
    have es : sO pgs = fld pg0 8 1 := by unfold sO; rw [hH]
    have eq : qO pgs = fld pg0 4 4 := by unfold qO; rw [hH]
    have hkr := fld_range hbp0 9
    rw [← ek, ← es, ← eq] at o10'
    rw [← ek] at hkr
    refine ⟨sO pgs, o10'.at (by rfl), kO pgs, o10'.at (by rfl), ?_⟩
    rintro b5 w22 rfl rfl
    have o5 := Owns.new (w := w') (two 0 0) ty_api_Plat
    have x22 := Ex.alloc w' (.cells (two 0 0).toArray ty_api_Plat)
    rw [two_new]
    have hb5 : w10.heap.size ≤ w'.heap.size := hx.size
    have h2lt : b2 < w'.heap.size := (o2.ge rfl).2
    have h1lt : b1 < w'.heap.size := (o1.ge rfl).2
    generalize hb5e : w'.heap.size = b5 at o5 hb5 h2lt h1lt ⊢
    generalize w'.alloc (.cells (two 0 0).toArray ty_api_Plat) = w22 at o5 x22 ⊢
    refine o5.put (cs := two (sO pgs) (kO pgs)) (by rfl) two_one fun w23 k23 o23 => ?_
    have x23 : Ex w' w23 := x22.then k23 fun i hi => by omega
    refine ⟨(two (sO pgs) (kO pgs)).toArray, rfl, o23.cells, ?_⟩
    have hbtx : Bytes (txt pgs) := fun x hx => by
      obtain ⟨pg, hpg, hx⟩ := List.mem_flatMap.1 hx
      exact (((hbt pg hpg).take _).drop _).take _ x hx
    refine callP.use (state_all t8p t8n t8c (txt pgs) (sO pgs) (kO pgs) w23 (o8.ex x23).cells htn o8.2.1 (by omega) hbtx hkr) ?_
    rintro _ w24 ⟨x24, hres⟩
    have hz7 : ∀ {w24 : World}, Ex w23 w24 → w23.heap.size ≤ w24.heap.size := fun x => x.size
    have h5lt : b5 < w23.heap.size := (o23.ge rfl).2
    rcases hres with ⟨hall, ps, rfl, hst⟩ | ⟨hall, cs, hcs, hone, rfl⟩
    · try dsimp only [dI_i64, dI_u8, dI_u16, dI_u32, dB_bool, dS_slice, dP_ptr, dT_tup, dA_agg, dStr_str, dF_f, dC_c, dM_m, optP_some, ga0, ga1, ga2, ga3, ga4, cond_true, cond_false, chk_true, Bool.not_true, Bool.not_false, Option.isNone_none, Option.isNone_some, List.toList_toArray]
      rintro b7 w26 rfl rfl
      rw [zst_new]
      have o7 := Owns.new (w := w24) zst ty_api_State
      have x26 := Ex.alloc w24 (.cells zst.toArray ty_api_State)
      have hb7 := x24.size
      generalize hb7e : w24.heap.size = b7 at o7 hb7 ⊢
      generalize w24.alloc (.cells zst.toArray ty_api_State) = w26 at o7 x26 ⊢
      have hst : StO w24 (stO pgs) ps := hst
      have hcl := hst.at.clen
      refine chk_of (decide_eq_true (by rw [List.size_toArray]; exact hcl)) ?_
      refine o7.put (cs := stC (stO pgs) ps) hcl hst.at.one fun w27 k27 o27 => ?_
      have x27 : Ex w24 w27 := x26.then k27 fun i hi => by omega
      rw [cond_neg (by rfl)]
      have y27 := x23.trans (x24.trans x27)
      have o27 : Owns w27 b7 ty_api_State 24 (some ⟨b7, 0, none⟩) 1 1 (stC (stO pgs) ps) := o27
      refine ⟨(stC (stO pgs) ps).toArray, by rw [List.size_toArray]; exact hcl, o27.cells, (two (sO pgs) (kO pgs)).toArray, rfl, (o23.ex (x24.trans x27)).cells, qO pgs, (o10'.ex y27).at (by rfl), ?_⟩
      have hst27 : StO w27 (stO pgs) ps := hst.ex x27
      refine callP.use (Encode_all hst27.at (sO pgs) (kO pgs) (qO pgs)) ?_
      rintro _ w30 ⟨x30, hres⟩
      rcases hres with ⟨hqs, hF, p5, n5, c5, ps5, rfl, o30, hpg⟩ | ⟨hno, e, he, rfl⟩
      · try dsimp only [dI_i64, dI_u8, dI_u16, dI_u32, dB_bool, dS_slice, dP_ptr, dT_tup, dA_agg, dStr_str, dF_f, dC_c, dM_m, optP_some, ga0, ga1, ga2, ga3, ga4, cond_true, cond_false, chk_true, Bool.not_true, Bool.not_false, Option.isNone_none, Option.isNone_some, List.toList_toArray]
        rw [cond_neg (by rfl)]
        have y30 := y27.trans x30
        have hpin := hpg.pin o30
        have hn5 : n5 ≤ 1000 := by
          have h1 := hpin.len
          rw [hd_len] at h1
          have h2 : (pay (kO pgs) (stO pgs)).length ≤ 528 := pay_le hst.len hF.1.2.1 _
          unfold cnt at h1
          omega
        refine callP.use (EqualFunc_gen hpin (hp10.ex (hx.trans y30)) (by omega) (fun pg h => by rw [laid64 pg h]; omega)) ?_
        rintro _ w32 ⟨rfl, x32⟩
        try dsimp only [dI_i64, dI_u8, dI_u16, dI_u32, dB_bool, dS_slice, dP_ptr, dT_tup, dA_agg, dStr_str, dF_f, dC_c, dM_m, optP_some, ga0, ga1, ga2, ga3, ga4, cond_true, cond_false, chk_true, Bool.not_true, Bool.not_false, Option.isNone_none, Option.isNone_some, List.toList_toArray]
        refine cond_of (fun hne => ?_) (fun hne => ?_)
        · have hne : ¬ laidAs (sO pgs) (kO pgs) (qO pgs) (pay (kO pgs) (stO pgs)) = pgs := by simpa using hne
          exact badx (y30.trans (x32.trans (Ex.drew _))) (fun g => hne g.same)
        have hsame : laidAs (sO pgs) (kO pgs) (qO pgs) (pay (kO pgs) (stO pgs)) = pgs := by simpa using hne
        have hgood : Good pgs := ⟨by omega, by omega, by rw [hH]; exact hok, by rw [hH, hlen]; exact hc3, hlv, hall, hF, hsame⟩
        have xd := x32.trans (Ex.drew w32)
        have y32 := y30.trans xd
        have o27' := o27.ex (x30.trans xd)
        have o23' := o23.ex ((x24.trans x27).trans (x30.trans xd))
        have o1' := o1.ex y32
        have o2' := o2.ex y32
        have o4' := o10'.ex y32
        refine ⟨(stC (stO pgs) ps).toArray, by rw [List.size_toArray]; exact hcl, o27'.cells, (two (sO pgs) (kO pgs)).toArray, rfl, o23'.cells, qO pgs, o4'.at (by rfl), chk_of (decide_eq_true (by rw [List.size_toArray]; exact hcl)) ?_⟩
        have t1 : ∀ i, i = b1 → Typed w32.drew ty_api_State i := fun i hi => by rw [hi]; exact (o1'.typed rfl).1
        refine o1'.put (cs := stC (stO pgs) ps) hcl hst.at.one fun w38 k38 o38 => ?_
        have o4'' := o4'.away k38 ty_api_State t1 (by decide)
        have o23'' := o23'.away k38 ty_api_State t1 (by decide)
        have o2'' := o2'.away k38 ty_api_State t1 (by decide)
        refine ⟨o4''.at (by rfl), chk_of (by rfl) ⟨o23''.cells, chk_of (by rfl) ?_⟩⟩
        have t2 : ∀ i, i = b2 → Typed w38 ty_api_Plat i := fun i hi => by rw [hi]; exact (o2''.typed rfl).1
        refine o2''.put (cs := two (sO pgs) (kO pgs)) (by rfl) two_one fun w39 k39 o39 => ?_
        refine ⟨(o4''.away k39 ty_api_Plat t2 (by decide)).at (by rfl), (stC (stO pgs) ps).toArray, by rw [List.size_toArray]; exact hcl, (o38.away k39 ty_api_Plat t2 (by decide)).cells, (two (sO pgs) (kO pgs)).toArray, rfl, o39.cells, Ret.mk ⟨?_, .inl ⟨hgood, ps, rfl, ?_⟩⟩⟩
        · exact ((hx10.trans (hx.trans y32)).then k38 fun i hi => by omega).then k39 fun i hi => by omega
        · exact (((hst27.ex x30).ex xd).away k38 ty_api_State t1 (by decide)).away k39 ty_api_Plat t2 (by decide)
      · try dsimp only [dI_i64, dI_u8, dI_u16, dI_u32, dB_bool, dS_slice, dP_ptr, dT_tup, dA_agg, dStr_str, dF_f, dC_c, dM_m, optP_some, ga0, ga1, ga2, ga3, ga4, cond_true, cond_false, chk_true, Bool.not_true, Bool.not_false, Option.isNone_none, Option.isNone_some, List.toList_toArray]
        have : (e != 0) = true := by simpa using he
        rw [cond_pos this]
        exact badx (y27.trans (x30.trans (Ex.drew _))) (fun g => hno ⟨by rw [eq]; exact hseq, g.fit⟩)
    · try dsimp only [dI_i64, dI_u8, dI_u16, dI_u32, dB_bool, dS_slice, dP_ptr, dT_tup, dA_agg, dStr_str, dF_f, dC_c, dM_m, optP_some, ga0, ga1, ga2, ga3, ga4, cond_true, cond_false, chk_true, Bool.not_true, Bool.not_false, Option.isNone_none, Option.isNone_some, List.toList_toArray]
      rintro b7 w26 rfl rfl
      rw [zst_new]
      have o7 := Owns.new (w := w24) zst ty_api_State
      have x26 := Ex.alloc w24 (.cells zst.toArray ty_api_State)
      have hb7 := x24.size
      generalize hb7e : w24.heap.size = b7 at o7 hb7 ⊢
      generalize w24.alloc (.cells zst.toArray ty_api_State) = w26 at o7 x26 ⊢
      refine chk_of (decide_eq_true hcs) ?_
      refine o7.put (cs := cs.toList) hcs hone fun w27 k27 o27 => ?_
      have x27 : Ex w24 w27 := x26.then k27 fun i hi => by omega
      rw [cond_pos (by rfl)]
      exact badx ((x23.trans (x24.trans x27)).trans (Ex.drew _)) (fun g => by have := g.all; rw [hall] at this; cases this)
end Go.Proofs.Ythgmebhkbbehmaa.G.En
