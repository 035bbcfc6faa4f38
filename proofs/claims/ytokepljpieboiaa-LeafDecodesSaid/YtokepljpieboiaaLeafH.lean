/-
  leaf.Decode of the pages of the empty state; awake; the law LeafCounts.
-/
import Derived.Test.YtokepljpieboiaaLeafF
namespace Go.Proofs.Ytokepljpieboiaa.G
open Go.Dec Go.RowKit
set_option linter.unusedVariables false
set_option linter.unusedSimpArgs false

theorem zst_two {k : Nat} (h : k < 8) : (zst.drop (k * 2)).take 2 = [.int .i64 0, .int .i64 0] := by
  rcases below8 h with rfl | rfl | rfl | rfl | rfl | rfl | rfl | rfl <;> rfl
theorem refSound_zero (w : World) : stopcockref07_Sound.C zst.toArray w (Ret fun v w' => v = .bool true ∧ Ex w w') := by
  apply stopcockref07_Sound.ok
  unfold stopcockref07_Sound.main
  rintro b1 w1 rfl rfl
  have o1 := Owns.new (w := w) zst ty_api_State
  have x1 := Ex.alloc w (.cells zst.toArray ty_api_State)
  generalize w.heap.size = b1 at o1 ⊢
  generalize w.alloc (.cells zst.toArray ty_api_State) = w1 at o1 x1 ⊢
  unfold stopcockref07_Sound.l1
  refine ⟨fun t1 t3 w' => b1 = t1 ∧ 0 ≤ t3 ∧ t3 ≤ 8 ∧ Ex w1 w', fun t1 t3 w' => (8 - t3).toNat, ⟨rfl, by omega, by omega, Ex.refl _⟩, ?_⟩
  rintro _ t3 w' ⟨rfl, h0, h8, hx⟩
  unfold stopcockref07_Sound.b1
  refine cond_of (fun h => ?_) (fun _ => Ret.mk ⟨rfl, x1.trans hx⟩)
  have h := of_decide_eq_true h
  obtain ⟨k, rfl⟩ := Int.eq_ofNat_of_zero_le h0
  have hk : k < 8 := by omega
  have own := o1.ex hx
  refine chk_of (decide_eq_true h0) (chk_of (decide_eq_true h) ?_)
  rw [Int.toNat_natCast]
  have hpair : CellsAt w' ((⟨b1, 0, none⟩ : Addr).add (k * 2)) [.int .i64 0, .int .i64 0] := by
    have := CellsO.take (a := some ((⟨b1, 0, none⟩ : Addr).add (k * 2))) (CellsAt.drop own.cells (k * 2)) 2
    rw [zst_two hk] at this
    exact this
  refine ⟨#[.int .i64 0, .int .i64 0], rfl, hpair, ?_⟩
  rintro b2 w2 rfl rfl
  have o2 := Owns.new (w := w') [.int .i64 0, .int .i64 0] ty_api_Entry
  have x2 := Ex.alloc w' (.cells [Value.int .i64 0, .int .i64 0].toArray ty_api_Entry)
  generalize w'.alloc (.cells #[.int .i64 0, .int .i64 0] ty_api_Entry) = w2 at o2 x2 ⊢
  refine chk_of (by rfl) ?_
  refine o2.put (cs := [.int .i64 0, .int .i64 0]) (by rfl) two_one fun w3 k3 o3 => ?_
  have x3 : Ex w' w3 := x2.then k3 fun i hi => hi ▸ Nat.le_refl _
  refine chk_of (decide_eq_true h0) (chk_of (decide_eq_true h) ?_)
  rw [addr16]
  refine ⟨none, 0, 0, (own.ex x3).at (zst_slice hk), 0, o3.at (by rfl), ?_⟩
  rw [cond_neg (by rfl)]
  refine ⟨0, o3.at (by rfl), ?_⟩
  rw [condd_neg (by omega)]
  refine ⟨0, o3.at (by rfl), ?_⟩
  rw [condd_neg (by omega)]
  refine ⟨0, o3.at (by rfl), ?_⟩
  rw [cond_pos (by rfl)]
  refine ⟨0, o3.at (by rfl), ?_⟩
  rw [cond_neg (by rfl)]
  refine ⟨0, o3.at (by rfl), ?_⟩
  rw [condd_neg (by omega)]
  intro k1
  have xk := x3.trans (Ex.drewN w3 k1)
  unfold stopcockref07_Sound.k1 stopcockref07_Sound.l2
  refine ⟨fun t1 t3 t5 t23 t24 t25 t28 t29 t30 t33 t34 t35 t36 t40 t43 t44 t45 t46 t55 w'' => b1 = t1 ∧ (k : Int) = t3 ∧ t5 = 0 ∧ w3.drewN k1 = w'', fun _ _ _ _ _ _ _ _ _ _ _ _ _ _ _ _ _ _ _ _ => 0, ⟨rfl, rfl, rfl, rfl⟩, ?_⟩
  rintro _ _ _ t23 t24 t25 t28 t29 t30 t33 t34 t35 t36 t40 t43 t44 t45 t46 t55 _ ⟨rfl, rfl, rfl, rfl⟩
  unfold stopcockref07_Sound.b2
  refine chk_of (decide_eq_true h0) (chk_of (decide_eq_true h) ?_)
  rw [Int.toNat_natCast, addr16]
  refine ⟨none, 0, 0, (own.ex xk).at (zst_slice hk), ?_⟩
  rw [condd_neg (by omega), wrap_next hk]
  exact ⟨⟨rfl, by omega, by omega, hx.trans xk⟩, by ((try dsimp only); omega)⟩

/-! ### Decode -/
theorem page0_hdr : hdrC page0 = [5, 6, 2, 1, 16] := by decide +kernel
theorem page0_ok : hdrOk page0 = true := by decide +kernel
theorem page1_open : opnE page1 = 0 := by decide +kernel
theorem page1_count : ((opnB page1)[5]?) = some 16 := by decide +kernel
theorem page1_part : ((opnB page1).drop 6).take 16 = zeros := by decide +kernel
theorem page0_bytes : Bytes page0 := seal_bytes text0_bytes
theorem page1_bytes : Bytes page1 := seal_bytes text1_bytes
theorem page0_len : page0.length = 64 := sealed_length (by rw [text0_len]; omega)
theorem page1_len : page1.length = 64 := sealed_length (by decide)
theorem Decode_pages {w : World} {B : Nat} {p : Option Addr} {c : Nat} {p0 : Option Addr} {c0 : Nat} {p1 : Option Addr} {c1 : Nat} (hp : Pages w B p c p0 c0 p1 c1) :
    leaf_Decode.C p 2 c w (Ret fun v w' => v = .tuple #[.agg zst.toArray, .agg #[.int .i64 6, .int .i64 2], .int .i64 5, .int .i64 0] ∧ Ex w w') := by
  apply leaf_Decode.ok
  unfold leaf_Decode.main
  rintro b1 w1 rfl rfl b2 w2 rfl rfl
  have o1 := Owns.new (w := w) zst ty_api_State
  have x1 := Ex.alloc w (.cells zst.toArray ty_api_State)
  have hb1 : w.heap.size ≤ w.heap.size := Nat.le_refl _
  generalize hb1e : w.heap.size = b1 at o1 hb1 ⊢
  have ez : ∀ w1 : World, w1.alloc (.cells #[.int .i64 0, .int .i64 0, .int .i64 0, .int .i64 0, .int .i64 0, .int .i64 0, .int .i64 0, .int .i64 0, .int .i64 0, .int .i64 0, .int .i64 0, .int .i64 0, .int .i64 0, .int .i64 0, .int .i64 0, .int .i64 0, .slice none 0 0, .slice none 0 0, .slice none 0 0, .slice none 0 0, .slice none 0 0, .slice none 0 0, .slice none 0 0, .slice none 0 0] ty_api_State) = w1.alloc (.cells zst.toArray ty_api_State) := fun _ => rfl
  rw [ez]
  generalize w.alloc (.cells zst.toArray ty_api_State) = w1 at o1 x1 ⊢
  have o2 := Owns.new (w := w1) [.int .i64 0, .int .i64 0] ty_api_Plat
  have x2 := Ex.alloc w1 (.cells [Value.int .i64 0, .int .i64 0].toArray ty_api_Plat)
  have hb2 : w.heap.size ≤ w1.heap.size := x1.size
  have h12 : b1 < w1.heap.size := (o1.ge rfl).2
  generalize w1.heap.size = b2 at o2 hb2 h12 ⊢
  generalize w1.alloc (.cells #[.int .i64 0, .int .i64 0] ty_api_Plat) = w2 at o2 x2 ⊢
  have o1 := o1.ex x2
  have hx2 := x1.trans x2
  clear x1 x2
  have hp2 := hp.ex hx2
  rw [cond_neg (by rfl), condd_neg (by decide)]
  refine chk_of (by decide) ?_
  obtain ⟨a, rfl, r0⟩ := hp2.list.cells.one (v := .slice p0 64 c0) (by rfl)
  try dsimp only [dI_i64, dI_u8, dI_u16, dI_u32, dB_bool, dS_slice, dP_ptr, dT_tup, dA_agg, dStr_str, dF_f, dC_c, dM_m, optP_some, ga0, ga1, ga2, ga3, ga4, cond_true, cond_false, chk_true, Bool.not_true, Bool.not_false, Option.isNone_none, Option.isNone_some, List.toList_toArray]
  refine ⟨p0, 64, c0, r0, ?_⟩
  refine callP.use (read_spec p0 64 c0 page0 w2 hp2.first.cells page0_len hp2.first.2.1 page0_bytes) ?_
  rintro _ w7 ⟨rfl, x7⟩
  try dsimp only [dI_i64, dI_u8, dI_u16, dI_u32, dB_bool, dS_slice, dP_ptr, dT_tup, dA_agg, dStr_str, dF_f, dC_c, dM_m, optP_some, ga0, ga1, ga2, ga3, ga4, cond_true, cond_false, chk_true, Bool.not_true, Bool.not_false, Option.isNone_none, Option.isNone_some, List.toList_toArray]
  rw [page0_hdr, page0_ok]
  rintro b4 w9 rfl rfl
  have o4 := Owns.new (w := w7) (Cel.v64 [0, 0, 0, 0, 0]) ty_leaf_header
  have x9 := Ex.alloc w7 (.cells (Cel.v64 [0, 0, 0, 0, 0]).toArray ty_leaf_header)
  have e4 : w7.alloc (.cells #[.int .i64 0, .int .i64 0, .int .i64 0, .int .i64 0, .int .i64 0] ty_leaf_header) = w7.alloc (.cells (Cel.v64 [0, 0, 0, 0, 0]).toArray ty_leaf_header) := rfl
  rw [e4]
  have hb4 : w2.heap.size ≤ w7.heap.size := x7.size
  generalize w7.heap.size = b4 at o4 hb4 ⊢
  generalize w7.alloc (.cells (Cel.v64 [0, 0, 0, 0, 0]).toArray ty_leaf_header) = w9 at o4 x9 ⊢
  refine chk_of (by rfl) ?_
  refine o4.put (cs := Cel.v64 [5, 6, 2, 1, 16]) (by rfl) (v64_one _) fun w10 k10 o10 => ?_
  have x10 : Ex w2 w10 := (x7.trans x9).then k10 fun i hi => by omega
  rw [cond_neg (by rfl)]
  refine ⟨1, o10.at (by rfl), ?_⟩
  rw [cond_neg (by rfl)]
  refine chk_of (by decide) ?_
  have hp10 := hp2.ex x10
  have o1 := o1.ex x10
  have o2 := o2.ex x10
  have hx10 := hx2.trans x10
  have hsecond : ∀ {w' : World}, Ex w10 w' → CellsO w' (slA (some a) c 1 1) [.slice p1 64 c1] := fun hx => by
    have := (hp10.ex hx).list.cells.slice c 1 1 (hp10.ex hx).list.2.1
    exact this
  unfold leaf_Decode.l1
  refine ⟨fun t0p t0n t0c t2 t3 t6 t8p t8n t8c t46p t46n t46c t47 t48 w' => t0p = some a ∧ t0n = 2 ∧ c = t0c ∧ b1 = t2 ∧ b2 = t3 ∧ b4 = t6 ∧ t46p = slA (some a) c 1 1 ∧ t46n = 1 ∧ t47 = 1 ∧ Ex w10 w' ∧ ((t48 = 0 ∧ t8p = none ∧ t8n = 0 ∧ t8c = 0) ∨ (t48 = 1 ∧ t8n = 16 ∧ Owns w' w10.heap.size ty_uint8 1 t8p 16 t8c (v8 zeros))),
    fun t0p t0n t0c t2 t3 t6 t8p t8n t8c t46p t46n t46c t47 t48 w' => (1 - t48).toNat, ⟨rfl, rfl, rfl, rfl, rfl, rfl, rfl, rfl, rfl, Ex.refl _, .inl ⟨rfl, rfl, rfl, rfl⟩⟩, ?_⟩
  rintro _ _ _ _ _ _ t8p t8n t8c _ _ t46c _ t48 w' ⟨rfl, rfl, rfl, rfl, rfl, rfl, rfl, rfl, rfl, hx, hcase⟩
  unfold leaf_Decode.b1
  rcases hcase with ⟨rfl, rfl, rfl, rfl⟩ | ⟨rfl, rfl, o8⟩
  · rw [condd_pos (by omega)]
    refine chk_of (by decide) (chk_of (by decide) ?_)
    obtain ⟨a2, ea2, r2⟩ := (hsecond hx).many (j := 0) (v := .slice p1 64 c1) (by rfl)
    rw [ea2]
    try dsimp only [dI_i64, dI_u8, dI_u16, dI_u32, dB_bool, dS_slice, dP_ptr, dT_tup, dA_agg, dStr_str, dF_f, dC_c, dM_m, optP_some, ga0, ga1, ga2, ga3, ga4, cond_true, cond_false, chk_true, Bool.not_true, Bool.not_false, Option.isNone_none, Option.isNone_some, List.toList_toArray]
    refine ⟨p1, 64, c1, r2, ?_⟩
    have sec := (hp10.ex hx).second
    have q1 := page1_open
    have q2 := page1_count
    have q3 := page1_part
    have q4 := page1_len
    have q5 := page1_bytes
    generalize page1 = pg at sec q1 q2 q3 q4 q5
    refine callP.use (Open_spec p1 64 c1 pg w' sec.cells q4 sec.2.1 q5) ?_
    rintro _ w15 ⟨q, m, d, rfl, hm, oq, x15⟩
    try dsimp only [dI_i64, dI_u8, dI_u16, dI_u32, dB_bool, dS_slice, dP_ptr, dT_tup, dA_agg, dStr_str, dF_f, dC_c, dM_m, optP_some, ga0, ga1, ga2, ga3, ga4, cond_true, cond_false, chk_true, Bool.not_true, Bool.not_false, Option.isNone_none, Option.isNone_some, List.toList_toArray]
    rw [q1, cond_neg (by rfl)]
    have hm60 : m = 60 := by
      have h1 := own_len oq
      rw [(open_ok q1).2, List.length_take, q4] at h1
      exact h1.symm
    subst hm60
    have r5 : (v8 (opnB pg))[5]? = some (.int .u8 16) := by
      unfold v8
      rw [List.getElem?_map, q2]
      rfl
    obtain ⟨a3, rfl, r3⟩ := oq.cells.many r5
    refine chk_of (by decide) ?_
    try dsimp only [dI_i64, dI_u8, dI_u16, dI_u32, dB_bool, dS_slice, dP_ptr, dT_tup, dA_agg, dStr_str, dF_f, dC_c, dM_m, optP_some, ga0, ga1, ga2, ga3, ga4, cond_true, cond_false, chk_true, Bool.not_true, Bool.not_false, Option.isNone_none, Option.isNone_some, List.toList_toArray]
    refine ⟨16, r3, ?_⟩
    rw [condd_neg (by omega)]
    refine chk_of (by decide) ?_
    refine ⟨16, r3, ?_⟩
    have e22 : IntKind.u8.wrap (6 + 16) = 22 := by decide
    rw [e22]
    have hcap := oq.2.1
    refine chk_of (by decide) (chk_of (decide_eq_true (by omega)) (chk_of (by decide) ?_))
    have hpart : CellsO w15 (slA (some a3) d 6 1) (v8 zeros) := by
      have hl60 : (opnB pg).length = 60 := own_len oq
      have := oq.cells.slice d 6 16 (by rw [v8_len, hl60]; exact hcap)
      unfold v8 at this
      rw [← List.map_drop, ← List.map_take, q3] at this
      exact this
    refine appP_own (B := w10.heap.size) (Owns.nil _ _ _ _) (hx.trans x15).size (v8 zeros) hpart rfl (v8_one _) rfl (by decide) (by decide) ?_
    intro p4 c4 w21 o21 k21
    have x21 : Ex w15 w21 := k21.mono fun i _ ⟨y, e, _⟩ => by cases e
    have e1 : IntKind.i64.wrap (0 + 1) = 1 := rfl
    rw [e1]
    exact ⟨⟨rfl, rfl, rfl, rfl, rfl, rfl, rfl, rfl, rfl, hx.trans (x15.trans x21), .inr ⟨rfl, rfl, o21⟩⟩, by ((try dsimp only); omega)⟩
  · rw [condd_neg (by omega)]
    unfold leaf_Decode.k1
    have o10' := o10.ex hx
    have o1 := o1.ex hx
    have o2 := o2.ex hx
    refine ⟨6, o10'.at (by rfl), 2, o10'.at (by rfl), ?_⟩
    rintro b5 w22 rfl rfl
    have o5 := Owns.new (w := w') [.int .i64 0, .int .i64 0] ty_api_Plat
    have x22 := Ex.alloc w' (.cells [Value.int .i64 0, .int .i64 0].toArray ty_api_Plat)
    have hb5 : w10.heap.size ≤ w'.heap.size := hx.size
    have h2lt : b2 < w'.heap.size := (o2.ge rfl).2
    have h1lt : b1 < w'.heap.size := (o1.ge rfl).2
    generalize hb5e : w'.heap.size = b5 at o5 hb5 h2lt h1lt ⊢
    generalize w'.alloc (.cells #[.int .i64 0, .int .i64 0] ty_api_Plat) = w22 at o5 x22 ⊢
    refine o5.put (cs := [.int .i64 6, .int .i64 2]) (by rfl) two_one fun w23 k23 o23 => ?_
    have x23 : Ex w' w23 := x22.then k23 fun i hi => by omega
    refine ⟨#[.int .i64 6, .int .i64 2], rfl, o23.cells, ?_⟩
    refine callP.use (state_zero t8p t8c w23 (o8.ex x23).cells o8.2.1) ?_
    rintro _ w24 ⟨rfl, x24⟩
    try dsimp only [dI_i64, dI_u8, dI_u16, dI_u32, dB_bool, dS_slice, dP_ptr, dT_tup, dA_agg, dStr_str, dF_f, dC_c, dM_m, optP_some, ga0, ga1, ga2, ga3, ga4, cond_true, cond_false, chk_true, Bool.not_true, Bool.not_false, Option.isNone_none, Option.isNone_some, List.toList_toArray]
    rintro b7 w26 rfl rfl
    rw [ez]
    have o7 := Owns.new (w := w24) zst ty_api_State
    have x26 := Ex.alloc w24 (.cells zst.toArray ty_api_State)
    have hb7 : w23.heap.size ≤ w24.heap.size := x24.size
    have h5lt : b5 < w23.heap.size := (o23.ge rfl).2
    generalize hb7e : w24.heap.size = b7 at o7 hb7 ⊢
    generalize w24.alloc (.cells zst.toArray ty_api_State) = w26 at o7 x26 ⊢
    refine chk_of (by rfl) ?_
    refine o7.put (cs := zst) (by rfl) zst_one fun w27 k27 o27 => ?_
    have x27 : Ex w24 w27 := x26.then k27 fun i hi => by omega
    rw [cond_neg (by rfl)]
    have y27 := x23.trans (x24.trans x27)
    refine ⟨zst.toArray, rfl, o27.cells, #[.int .i64 6, .int .i64 2], rfl, (o23.ex (x24.trans x27)).cells, 5, (o10'.ex y27).at (by rfl), ?_⟩
    refine callP.use (Encode_zero w27) ?_
    rintro _ w30 ⟨r, e, r0, e0, r1, e1, rfl, x30, hq⟩
    try dsimp only [dI_i64, dI_u8, dI_u16, dI_u32, dB_bool, dS_slice, dP_ptr, dT_tup, dA_agg, dStr_str, dF_f, dC_c, dM_m, optP_some, ga0, ga1, ga2, ga3, ga4, cond_true, cond_false, chk_true, Bool.not_true, Bool.not_false, Option.isNone_none, Option.isNone_some, List.toList_toArray]
    rw [cond_neg (by rfl)]
    have y30 := y27.trans x30
    refine callP.use (EqualFunc_pages hq ((hp10.ex hx).ex y30)) ?_
    rintro _ w32 ⟨rfl, x32⟩
    try dsimp only [dI_i64, dI_u8, dI_u16, dI_u32, dB_bool, dS_slice, dP_ptr, dT_tup, dA_agg, dStr_str, dF_f, dC_c, dM_m, optP_some, ga0, ga1, ga2, ga3, ga4, cond_true, cond_false, chk_true, Bool.not_true, Bool.not_false, Option.isNone_none, Option.isNone_some, List.toList_toArray]
    rw [cond_neg (by rfl)]
    have xd := x32.trans (Ex.drew w32)
    have y32 := y30.trans xd
    have o27' := o27.ex (x30.trans xd)
    have o23' := o23.ex ((x24.trans x27).trans (x30.trans xd))
    have o1' := o1.ex y32
    have o2' := o2.ex y32
    have o4' := o10'.ex y32
    refine ⟨zst.toArray, rfl, o27'.cells, #[.int .i64 6, .int .i64 2], rfl, o23'.cells, 5, o4'.at (by rfl), chk_of (by rfl) ?_⟩
    have t1 : ∀ i, i = b1 → Typed w32.drew ty_api_State i := fun i hi => by rw [hi]; exact (o1'.typed rfl).1
    refine o1'.put (cs := zst) (by rfl) zst_one fun w38 k38 o38 => ?_
    have o4'' := o4'.away k38 ty_api_State t1 (by decide)
    have o23'' := o23'.away k38 ty_api_State t1 (by decide)
    have o2'' := o2'.away k38 ty_api_State t1 (by decide)
    refine ⟨o4''.at (by rfl), chk_of (by rfl) ⟨o23''.cells, chk_of (by rfl) ?_⟩⟩
    have t2 : ∀ i, i = b2 → Typed w38 ty_api_Plat i := fun i hi => by rw [hi]; exact (o2''.typed rfl).1
    refine o2''.put (cs := [.int .i64 6, .int .i64 2]) (by rfl) two_one fun w39 k39 o39 => ?_
    refine ⟨(o4''.away k39 ty_api_Plat t2 (by decide)).at (by rfl), zst.toArray, rfl, (o38.away k39 ty_api_Plat t2 (by decide)).cells, #[.int .i64 6, .int .i64 2], rfl, o39.cells, Ret.mk ⟨rfl, ?_⟩⟩
    exact ((hx10.trans (hx.trans y32)).then k38 fun i hi => by omega).then k39 fun i hi => by omega

/-! ### The law -/
theorem awake_spec (w : World) : stopcocklaw13_awake.C w (Ret fun v w' => v = .bool true ∧ Ex w w') := by
  apply stopcocklaw13_awake.ok
  unfold stopcocklaw13_awake.main
  refine callP.use (Encode_zero w) ?_
  rintro _ w1 ⟨p, c, p0, c0, p1, c1, rfl, x1, hp⟩
  try dsimp only [dI_i64, dI_u8, dI_u16, dI_u32, dB_bool, dS_slice, dP_ptr, dT_tup, dA_agg, dStr_str, dF_f, dC_c, dM_m, optP_some, ga0, ga1, ga2, ga3, ga4, cond_true, cond_false, chk_true, Bool.not_true, Bool.not_false, Option.isNone_none, Option.isNone_some, List.toList_toArray]
  refine callP.use (Decode_pages hp) ?_
  rintro _ w3 ⟨rfl, x3⟩
  try dsimp only [dI_i64, dI_u8, dI_u16, dI_u32, dB_bool, dS_slice, dP_ptr, dT_tup, dA_agg, dStr_str, dF_f, dC_c, dM_m, optP_some, ga0, ga1, ga2, ga3, ga4, cond_true, cond_false, chk_true, Bool.not_true, Bool.not_false, Option.isNone_none, Option.isNone_some, List.toList_toArray]
  rintro b1 w5 rfl rfl b2 w6 rfl rfl
  have o1 := Owns.new (w := w3) zst ty_api_State
  have x5 := Ex.alloc w3 (.cells zst.toArray ty_api_State)
  have ez : ∀ w1 : World, w1.alloc (.cells #[.int .i64 0, .int .i64 0, .int .i64 0, .int .i64 0, .int .i64 0, .int .i64 0, .int .i64 0, .int .i64 0, .int .i64 0, .int .i64 0, .int .i64 0, .int .i64 0, .int .i64 0, .int .i64 0, .int .i64 0, .int .i64 0, .slice none 0 0, .slice none 0 0, .slice none 0 0, .slice none 0 0, .slice none 0 0, .slice none 0 0, .slice none 0 0, .slice none 0 0] ty_api_State) = w1.alloc (.cells zst.toArray ty_api_State) := fun _ => rfl
  rw [ez]
  have h3 : w1.heap.size ≤ w3.heap.size := x3.size
  generalize hb1 : w3.heap.size = b1 at o1 h3 ⊢
  generalize w3.alloc (.cells zst.toArray ty_api_State) = w5 at o1 x5 ⊢
  have o2 := Owns.new (w := w5) [.int .i64 0, .int .i64 0] ty_api_Plat
  have x6 := Ex.alloc w5 (.cells [Value.int .i64 0, .int .i64 0].toArray ty_api_Plat)
  have h5 : w3.heap.size ≤ w5.heap.size := x5.size
  generalize hb2 : w5.heap.size = b2 at o2 h5 ⊢
  generalize w5.alloc (.cells #[.int .i64 0, .int .i64 0] ty_api_Plat) = w6 at o2 x6 ⊢
  refine chk_of (by rfl) ?_
  have o1 := o1.ex x6
  have t1 : ∀ i, i = b1 → Typed w6 ty_api_State i := fun i hi => by rw [hi]; exact (o1.typed rfl).1
  refine o1.put (cs := zst) (by rfl) zst_one fun w7 k7 o7 => ?_
  have o2' := o2.away k7 ty_api_State t1 (by decide)
  refine chk_of (by rfl) ?_
  have t2 : ∀ i, i = b2 → Typed w7 ty_api_Plat i := fun i hi => by rw [hi]; exact (o2'.typed rfl).1
  refine o2'.put (cs := [.int .i64 6, .int .i64 2]) (by rfl) two_one fun w8 k8 o8 => ?_
  have o7' := o7.away k8 ty_api_Plat t2 (by decide)
  have x8 : Ex w3 w8 := ((x5.trans x6).then k7 fun i hi => by omega).then k8 fun i hi => by omega
  have hp8 := (hp.ex x3).ex x8
  rw [cond_neg (by rfl)]
  refine chk_of (by decide) ?_
  obtain ⟨a, rfl, r0⟩ := hp8.list.cells.one (v := .slice p0 64 c0) (by rfl)
  try dsimp only [dI_i64, dI_u8, dI_u16, dI_u32, dB_bool, dS_slice, dP_ptr, dT_tup, dA_agg, dStr_str, dF_f, dC_c, dM_m, optP_some, ga0, ga1, ga2, ga3, ga4, cond_true, cond_false, chk_true, Bool.not_true, Bool.not_false, Option.isNone_none, Option.isNone_some, List.toList_toArray]
  refine ⟨p0, 64, c0, r0, ?_⟩
  refine callP.use (Count_spec p0 64 c0 page0 w8 hp8.first.cells page0_len hp8.first.2.1 page0_bytes) ?_
  have ec : cntR page0 = [1, 5, 0] := by decide +kernel
  rw [ec]
  rintro _ w9 ⟨rfl, x9⟩
  have e3 : (Cel.v64 [1, 5, 0]).toArray = #[.int .i64 1, .int .i64 5, .int .i64 0] := rfl
  rw [e3]
  try dsimp only [dI_i64, dI_u8, dI_u16, dI_u32, dB_bool, dS_slice, dP_ptr, dT_tup, dA_agg, dStr_str, dF_f, dC_c, dM_m, optP_some, ga0, ga1, ga2, ga3, ga4, cond_true, cond_false, chk_true, Bool.not_true, Bool.not_false, Option.isNone_none, Option.isNone_some, List.toList_toArray]
  rw [cond_pos (by rfl), cond_pos (by rfl), cond_pos (by rfl), cond_pos (by rfl)]
  refine ⟨zst.toArray, rfl, (o7'.ex x9).cells, ?_⟩
  refine callP.use (refSound_zero w9) ?_
  rintro _ w11 ⟨rfl, x11⟩
  try dsimp only [dI_i64, dI_u8, dI_u16, dI_u32, dB_bool, dS_slice, dP_ptr, dT_tup, dA_agg, dStr_str, dF_f, dC_c, dM_m, optP_some, ga0, ga1, ga2, ga3, ga4, cond_true, cond_false, chk_true, Bool.not_true, Bool.not_false, Option.isNone_none, Option.isNone_some, List.toList_toArray]
  refine ⟨6, (o8.ex (x9.trans x11)).at (by rfl), ?_⟩
  rw [cond_pos (by rfl), cond_pos (by rfl), cond_pos (by rfl)]
  exact Ret.mk ⟨rfl, x1.trans (x3.trans (x8.trans (x9.trans x11)))⟩
theorem LeafCounts_row (p : Option Addr) (n c : Nat) (xs : List Int) (w : World) (h : Ints .u8 w p n c xs) (hr : c * 1 ≤ 140737488351232) :
    stopcocklaw13_LeafCounts.C p n c w (Ret fun v w' => v = .bool true ∧ Ex w w') := by
  have hb : Bytes xs := fun x hx => wf_u8' (h.wf x hx)
  apply stopcocklaw13_LeafCounts.ok
  unfold stopcocklaw13_LeafCounts.main
  refine callP.use (Count_spec p n c xs w h.cells h.size h.room hb) ?_
  rintro _ w1 ⟨rfl, x1⟩
  have e3 : ∃ a b e, cntR xs = [a, b, e] := by unfold cntR; split; exact ⟨_, _, _, rfl⟩; exact ⟨_, _, _, rfl⟩
  obtain ⟨a, b, e, hc⟩ := e3
  have ev : (Cel.v64 [a, b, e]).toArray = #[.int .i64 a, .int .i64 b, .int .i64 e] := rfl
  rw [hc, ev]
  try dsimp only [dI_i64, dI_u8, dI_u16, dI_u32, dB_bool, dS_slice, dP_ptr, dT_tup, dA_agg, dStr_str, dF_f, dC_c, dM_m, optP_some, ga0, ga1, ga2, ga3, ga4, cond_true, cond_false, chk_true, Bool.not_true, Bool.not_false, Option.isNone_none, Option.isNone_some, List.toList_toArray]
  refine callP.use (refCount_spec p n c xs w1 (h.cells.ex x1) h.size h.room hb) ?_
  rintro _ w3 ⟨rfl, x3⟩
  rw [hc, ev]
  try dsimp only [dI_i64, dI_u8, dI_u16, dI_u32, dB_bool, dS_slice, dP_ptr, dT_tup, dA_agg, dStr_str, dF_f, dC_c, dM_m, optP_some, ga0, ga1, ga2, ga3, ga4, cond_true, cond_false, chk_true, Bool.not_true, Bool.not_false, Option.isNone_none, Option.isNone_some, List.toList_toArray]
  refine callP.use (awake_spec w3) ?_
  rintro _ w5 ⟨rfl, x5⟩
  try dsimp only [dI_i64, dI_u8, dI_u16, dI_u32, dB_bool, dS_slice, dP_ptr, dT_tup, dA_agg, dStr_str, dF_f, dC_c, dM_m, optP_some, ga0, ga1, ga2, ga3, ga4, cond_true, cond_false, chk_true, Bool.not_true, Bool.not_false, Option.isNone_none, Option.isNone_some, List.toList_toArray]
  rw [cond_pos (by simp), cond_pos (by simp)]
  exact Ret.mk ⟨by simp, x1.trans (x3.trans x5)⟩
end Go.Proofs.Ytokepljpieboiaa.G
