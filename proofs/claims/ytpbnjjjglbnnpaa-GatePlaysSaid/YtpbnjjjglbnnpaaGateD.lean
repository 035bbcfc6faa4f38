/-
  The law GateOrder: the walk.
-/
import Derived.Test.YtpbnjjjglbnnpaaGateC
namespace Go.Proofs.Ytpbnjjjglbnnpaa.G
open Go.Dec Go.RowKit
set_option linter.unusedVariables false
set_option linter.unusedSimpArgs false

def key (r : Rq) : Int × Int × Int × Int × List Int := (r.k, r.v, r.b, r.s, r.bs)
theorem like_of_key {x y : Rq} (h : key x = key y) : like x y := by
  simp only [key, Prod.mk.injEq] at h
  exact h
theorem key_of_like {x y : Rq} (h : like x y) : key x = key y := by
  simp only [key, Prod.mk.injEq]
  exact h
def keys (xs : List (Rq × Int)) : List (Int × Int × Int × Int × List Int) := xs.map fun x => key x.1
theorem fill_one (a b c d : Int) (p : Option Addr) (n m : Nat) : Instr.fill (fun i => some (i * 5, 5)) (madeCells #[(Value.int .i64 0), (Value.int .i64 0), (Value.int .i64 0), (Value.int .i64 0), (Value.slice none 0 0)] (1 * 5)) [(0, (Value.agg #[.int .i64 a, .int .i64 b, .int .i64 c, .int .i64 d, .slice p n m]))] =
    some #[.int .i64 a, .int .i64 b, .int .i64 c, .int .i64 d, .slice p n m] := by
  have : madeCells #[(Value.int .i64 0), (Value.int .i64 0), (Value.int .i64 0), (Value.int .i64 0), (Value.slice none 0 0)] (1 * 5) = #[(Value.int .i64 0), (Value.int .i64 0), (Value.int .i64 0), (Value.int .i64 0), (Value.slice none 0 0)] := by kernel_rfl
  rw [this]
  simp [Instr.fill, Value.cells]
theorem cells_len (r : Rq) : r.cells.length = 5 := rfl

/-- the requests of a list that came in -/
def reqLine : Line := .int .i64 (.int .i64 (.int .i64 (.int .i64 (.sl 1 (.int .u8 .done) .done))))
theorem rq_of_line {w : World} {r : List Value} (h : LineIs w (fun b c => c * b ≤ 140737488351232) reqLine r) : ∃ q : Rq, r = q.cells ∧ RqOk w q ∧ In64 q.k := by
  obtain ⟨a, _, rfl, wa, b, _, rfl, _, c, _, rfl, _, d, _, rfl, _, p, n, m, rows, _, rfl, hs, ht⟩ := h
  obtain rfl : _ = [] := ht
  obtain ⟨xs, hi, hm, _⟩ := hs.ints
  exact ⟨⟨a, b, c, d, xs, p, n, m⟩, rfl, ⟨hi.cells, hi.size, by have := hi.room; show _ ≤ _; dsimp only; omega, fun x hx => wf_u8' (hi.wf x hx)⟩, wf_i64' wa⟩
theorem rqs_of {w : World} : ∀ {rows : List (List Value)}, (∀ r ∈ rows, LineIs w (fun b c => c * b ≤ 140737488351232) reqLine r) → ∃ rs : List Rq, rows = rs.map Rq.cells ∧ ∀ q ∈ rs, RqOk w q
  | [], _ => ⟨[], rfl, by simp⟩
  | r :: rows, h => by
    obtain ⟨q, rfl, hq, _⟩ := rq_of_line (h r (by simp))
    obtain ⟨rs, rfl, hrs⟩ := rqs_of (rows := rows) fun x hx => h x (List.mem_cons_of_mem _ hx)
    exact ⟨q :: rs, rfl, fun x hx => by
      rcases List.mem_cons.1 hx with rfl | hx
      · exact hq
      · exact hrs x hx⟩
theorem row5 {w : World} {p : Option Addr} {rs : List Rq} (h : CellsO w p (rs.map Rq.cells).flatten) {i : Nat} {q : Rq} (hi : rs[i]? = some q) : ∃ a, p = some a ∧ CellsAt w (a.add (i * 5)) q.cells :=
  h.row (fun r hr => by obtain ⟨q, _, rfl⟩ := List.mem_map.1 hr; rfl) (by decide) (by rw [List.getElem?_map, hi]; rfl)
theorem len5 (rs : List Rq) : (rs.map Rq.cells).flatten.length = rs.length * 5 := by
  rw [flatten_len _ 5 fun r hr => by obtain ⟨q, _, rfl⟩ := List.mem_map.1 hr; rfl, List.length_map]
theorem getE {α : Type} {l : List α} {i : Nat} (h : i < l.length) : ∃ x, l[i]? = some x ∧ x ∈ l := ⟨l[i], List.getElem?_eq_getElem h, List.getElem_mem h⟩

theorem GateOrder_row (p0 : Option Addr) (n0 c0 : Nat) (rows : List (List Value)) (w : World) (hl : SlIs w (fun b c => c * b ≤ 140737488351232) 56 (LineIs w (fun b c => c * b ≤ 140737488351232) reqLine) p0 n0 c0 rows) :
    stopcocklaw19_GateOrder.C p0 n0 c0 w (Ret fun v w' => v = .bool true ∧ Ex w w') := by
  obtain ⟨ls, rfl, hls⟩ := rqs_of hl.each
  have hlc := hl.cells
  have hln : ls.length = n0 := by simpa using hl.size
  apply stopcocklaw19_GateOrder.ok
  unfold stopcocklaw19_GateOrder.main
  refine callP.use (New_spec w) ?_
  rintro _ w1 ⟨rfl, x1, G1⟩
  have hB : w.heap.size ≤ w.heap.size := Nat.le_refl _
  generalize hBB : w.heap.size = B at G1
  rw [hBB] at hB
  try dsimp only [dI_i64, dI_u8, dI_u16, dI_u32, dB_bool, dS_slice, dP_ptr, dT_tup, dA_agg, dStr_str, dF_f, dC_c, dM_m, optP_some, ga0, ga1, ga2, ga3, ga4, cond_true, cond_false, chk_true, Bool.not_true, Bool.not_false, Option.isNone_none, Option.isNone_some, List.toList_toArray]
  refine callP.use (awake_spec w1) ?_
  rintro _ w3 ⟨rfl, x3⟩
  try dsimp only [dI_i64, dI_u8, dI_u16, dI_u32, dB_bool, dS_slice, dP_ptr, dT_tup, dA_agg, dStr_str, dF_f, dC_c, dM_m, optP_some, ga0, ga1, ga2, ga3, ga4, cond_true, cond_false, chk_true, Bool.not_true, Bool.not_false, Option.isNone_none, Option.isNone_some, List.toList_toArray]
  rintro b2 w5 rfl rfl
  have o5 := Own.alloc (w := w3) [] 29 5 0 rfl
  have x5 := Ex.alloc w3 (.cells #[] 29)
  have X3 := x1.trans x3
  have hB3 : B ≤ w3.heap.size := by rw [← hBB]; exact X3.size
  have G5 := (G1.ex x3).ex x5
  refine ⟨fun t0p t0n t0c t3 t4p t4n t4c t5 w' => p0 = t0p ∧ n0 = t0n ∧ c0 = t0c ∧ t3 = some ⟨B, 0, none⟩ ∧ 0 ≤ t5 ∧ t5 ≤ 40 ∧ Ex w w' ∧ B ≤ w'.heap.size ∧
    ∃ (rs : List Rq) (ys : List (Rq × Int)) (tk : Int), t4n = rs.length ∧ (rs.length : Int) ≤ t5 ∧ OwnO w' B 29 5 t4p t4n t4c (rs.map Rq.cells).flatten ∧ (∀ q ∈ rs, RqOk w q) ∧ GateIs w' B B ys tk ∧ 0 ≤ tk ∧ tk ≤ t5 ∧ keys ys = rs.map key,
    fun t0p t0n t0c t3 t4p t4n t4c t5 w' => (40 - t5).toNat, ?_, ?_⟩
  · exact ⟨rfl, rfl, rfl, rfl, by omega, by omega, X3.trans x5, Nat.le_trans hB3 x5.size, [], [], 0, rfl, by simp, (o5.lower hB3).toO, by simp, G5, by omega, by omega, rfl⟩
  clear o5 G5 x5 G1 x1 x3 X3 hB3
  clear w3 w1
  rintro _ _ _ _ t4p t4n t4c t5 w1 ⟨rfl, rfl, rfl, rfl, ht0, ht40, X1, hB1, rs, ys, tk, rfl, hrl, o1, hrs, G1, htk0, htk, hkeys⟩
  unfold stopcocklaw19_GateOrder.b1
  have out : stopcocklaw19_GateOrder.k1 (some ⟨B, 0, none⟩) t4p rs.length t4c w1 (Ret fun v w' => v = .bool true ∧ Ex w w') := by
    unfold stopcocklaw19_GateOrder.k1
    have hr40 : (rs.length : Int) ≤ 40 := by omega
    refine ⟨fun t3 p n c t8 w' => t3 = some ⟨B, 0, none⟩ ∧ t4p = p ∧ rs.length = n ∧ t4c = c ∧ 0 ≤ t8 ∧ t8 ≤ (rs.length : Int) ∧ Ex w w' ∧ B ≤ w'.heap.size ∧ OwnO w' B 29 5 t4p rs.length t4c (rs.map Rq.cells).flatten ∧
      ∃ ys, GateIs w' B B ys tk ∧ keys ys = (rs.drop t8.toNat).map key, fun t3 p n c t8 w' => ((rs.length : Int) - t8).toNat, ?_, ?_⟩
    · exact ⟨rfl, rfl, rfl, rfl, by omega, by omega, X1, hB1, o1, ys, G1, by simpa using hkeys⟩
    clear ht0 ht40 hrl htk X1 hB1 o1 G1 hkeys htk0
    clear ys w1
    rintro _ _ _ _ t8 w1 ⟨rfl, rfl, rfl, rfl, ht0, ht8, X1, hB1, o1, ys, G1, hkeys⟩
    unfold stopcocklaw19_GateOrder.b2
    refine cond_of (fun hc => ?_) (fun hc => ?_)
    · have hc := of_decide_eq_true hc
      obtain ⟨q, hq, hqm⟩ := getE (l := rs) (i := t8.toNat) (by omega)
      cases ys with
      | nil =>
        have := congrArg List.length hkeys
        simp only [keys, List.map_nil, List.length_nil, List.length_map, List.length_drop] at this
        omega
      | cons y ys =>
      have hkq : key y.1 = key q ∧ keys ys = (rs.drop (t8.toNat + 1)).map key := by
        rw [List.drop_eq_getElem_cons (by omega)] at hkeys
        have hq' : rs[t8.toNat] = q := by
          have := List.getElem?_eq_getElem (show t8.toNat < rs.length by omega)
          rw [hq] at this
          exact (Option.some.inj this).symm
        rw [hq'] at hkeys
        simp only [keys, List.map_cons, List.cons.injEq] at hkeys
        exact hkeys
      refine callP.use (First_cons G1) ?_
      rintro _ w10 ⟨p', c', rfl, x10, d10⟩
      unfold Rq.cells
      try dsimp only [dI_i64, dI_u8, dI_u16, dI_u32, dB_bool, dS_slice, dP_ptr, dT_tup, dA_agg, dStr_str, dF_f, dC_c, dM_m, optP_some, ga0, ga1, ga2, ga3, ga4, cond_true, cond_false, chk_true, Bool.not_true, Bool.not_false, Option.isNone_none, Option.isNone_some, List.toList_toArray]
      rintro b4 w12 rfl rfl
      have o12 := Own.new (w := w10) zeros 29
      have x12 := Ex.alloc w10 (.cells zeros.toArray 29)
      unfold zeros at o12 x12
      generalize w10.alloc (.cells #[.int .i64 0, .int .i64 0, .int .i64 0, .int .i64 0, .slice none 0 0] 29) = w12 at o12 x12 ⊢
      refine chkd_of rfl ?_
      try dsimp only [dI_i64, dI_u8, dI_u16, dI_u32, dB_bool, dS_slice, dP_ptr, dT_tup, dA_agg, dStr_str, dF_f, dC_c, dM_m, optP_some, ga0, ga1, ga2, ga3, ga4, cond_true, cond_false, chk_true, Bool.not_true, Bool.not_false, Option.isNone_none, Option.isNone_some, List.toList_toArray]
      refine o12.put (by rfl) five_one fun w13 k13 o13 => ?_
      have x13 : Ex w10 w13.drew := (x12.then k13 fun i hi => by rw [hi]; exact Nat.le_refl _).trans (Ex.drew w13)
      have o13 := o13.ex (Ex.drew w13)
      generalize w13.drew = w13 at x13 o13 ⊢
      rw [cond_neg (by decide)]
      have x1' := x10.trans x13
      obtain ⟨a3, ha3, hc3⟩ := row5 (o1.ex x1').cells hq
      refine ⟨_, rfl, o13.cells, chkd_of ht0 (chkd_of hc (optP_of ha3 ⟨q.cells.toArray, rfl, hc3, ?_⟩))⟩
      have G1' := G1
      obtain ⟨_, _, _, _, hsm⟩ := G1'
      have hsm := (hsm y (List.mem_cons_self ..)).2
      have d13 := d10.ex x13
      have rq1 : RqOk w13 { y.1 with p := p', c := c' } := ⟨d13.cells, hsm.len, hsm.few, hsm.wf⟩
      refine callP.use (same_spec { y.1 with p := p', c := c' } q w13 rq1 ((hrs q hqm).ex (X1.trans x1'))) ?_
      rintro _ w14 ⟨hv, _, x14⟩
      rw [hv (like_of_key hkq.1)]
      try dsimp only [dI_i64, dI_u8, dI_u16, dI_u32, dB_bool, dS_slice, dP_ptr, dT_tup, dA_agg, dStr_str, dF_f, dC_c, dM_m, optP_some, ga0, ga1, ga2, ga3, ga4, cond_true, cond_false, chk_true, Bool.not_true, Bool.not_false, Option.isNone_none, Option.isNone_some, List.toList_toArray]
      have X14 := x1'.trans x14
      have d14 : Own w14 w1.heap.size 5 1 p' y.1.n c' (bytesOf y.1) := d13.ex x14
      have o14 := o13.ex x14
      refine ⟨fun t3 t4p' t4n' t4c' t8' t10 t12 t67 t68p t68n t68c t69 t70 t71 t72 t73 w' => t3 = some ⟨B, 0, none⟩ ∧ t4p = t4p' ∧ rs.length = t4n' ∧ t4c = t4c' ∧ t8 = t8' ∧ t10 = w10.heap.size ∧ 0 ≤ t12 ∧ t12 ≤ (y.1.n : Int) ∧ Ex w1 w' ∧
        Own w' w10.heap.size 29 5 (some ⟨w10.heap.size, 0, none⟩) 1 1 [.int .i64 y.1.k, .int .i64 y.1.v, .int .i64 y.1.b, .int .i64 y.1.s, .slice p' y.1.n c'] ∧ ∃ zs : List Int, Own w' w1.heap.size 5 1 p' y.1.n c' (zs.map (Value.int .u8)),
        fun t3 t4p' t4n' t4c' t8' t10 t12 t67 t68p t68n t68c t69 t70 t71 t72 t73 w' => ((y.1.n : Int) - t12).toNat, ?_, ?_⟩
      · exact ⟨rfl, rfl, rfl, rfl, rfl, rfl, by omega, by omega, X14, o14, y.1.bs, d14⟩
      have s10 := x10.size
      generalize w10.heap.size = b4 at s10 ⊢
      rintro _ _ _ _ _ _ t12 t67 t68p t68n t68c t69 t70 t71 t72 t73 w2 ⟨rfl, rfl, rfl, rfl, rfl, rfl, hk0, hkn, x2, o2, zs, d2⟩
      unfold stopcocklaw19_GateOrder.b3
      refine ⟨_, _, _, o2.at (j := 4) rfl, cond_of (fun hk => ?_) (fun hk => ?_)⟩
      · have hk := of_decide_eq_true hk
        have hzl : zs.length = y.1.n := by simpa using d2.1
        refine ⟨_, _, _, o2.at (j := 4) rfl, chkd_of hk0 (chkd_of hk ?_)⟩
        obtain ⟨z, hz, _⟩ := getE (l := zs) (i := t12.toNat) (by omega)
        obtain ⟨a4, ha4, hc4⟩ := d2.cells.many (j := t12.toNat) (v := .int .u8 z) (by rw [List.getElem?_map, hz]; rfl)
        subst ha4
        rw [← Nat.mul_one t12.toNat] at hc4
        obtain ⟨q1, q2, q3, q4⟩ := d2.store (j := t12.toNat) (by omega) (.int .u8 (IntKind.u8.wrap (BitVec.ofInt IntKind.u8.bits z ^^^ BitVec.ofInt IntKind.u8.bits 255).toNat)) rfl
        refine ⟨z, hc4, chkd_of hk0 (chkd_of hk ⟨q1, q2, ?_⟩)⟩
        rintro w16 rfl
        have hge := d2.ge rfl
        have hfew := hsm.few
        have t5 : ∀ i, i = a4.block → Typed w2 5 i := fun i hi => hi ▸ (d2.typed rfl).1
        rw [w64 (by omega) (by omega)]
        refine ⟨⟨rfl, rfl, rfl, rfl, rfl, rfl, by omega, by omega, x2.then q4 fun i hi => by omega, o2.away q4 5 t5 (by decide), zs.set t12.toNat (IntKind.u8.wrap (BitVec.ofInt IntKind.u8.bits z ^^^ BitVec.ofInt IntKind.u8.bits 255).toNat), ?_⟩, by ((try dsimp only); omega)⟩
        rw [List.map_set]
        exact q3
      · unfold stopcocklaw19_GateOrder.k2
        have G2 := G1.ex x2
        refine callP.use (First_cons G2) ?_
        rintro _ w17 ⟨p2, c2, rfl, x17, d17⟩
        unfold Rq.cells
        try dsimp only [dI_i64, dI_u8, dI_u16, dI_u32, dB_bool, dS_slice, dP_ptr, dT_tup, dA_agg, dStr_str, dF_f, dC_c, dM_m, optP_some, ga0, ga1, ga2, ga3, ga4, cond_true, cond_false, chk_true, Bool.not_true, Bool.not_false, Option.isNone_none, Option.isNone_some, List.toList_toArray]
        rintro b6 w19 rfl rfl
        have o19 := Own.new (w := w17) zeros 29
        have x19 := Ex.alloc w17 (.cells zeros.toArray 29)
        unfold zeros at o19 x19
        generalize w17.alloc (.cells #[.int .i64 0, .int .i64 0, .int .i64 0, .int .i64 0, .slice none 0 0] 29) = w19 at o19 x19 ⊢
        refine chkd_of rfl ?_
        try dsimp only [dI_i64, dI_u8, dI_u16, dI_u32, dB_bool, dS_slice, dP_ptr, dT_tup, dA_agg, dStr_str, dF_f, dC_c, dM_m, optP_some, ga0, ga1, ga2, ga3, ga4, cond_true, cond_false, chk_true, Bool.not_true, Bool.not_false, Option.isNone_none, Option.isNone_some, List.toList_toArray]
        refine o19.put (by rfl) five_one fun w20 k20 o20 => ?_
        have x20 : Ex w17 w20.drew := (x19.then k20 fun i hi => by rw [hi]; exact Nat.le_refl _).trans (Ex.drew w20)
        have o20 := o20.ex (Ex.drew w20)
        generalize w20.drew = w20 at x20 o20 ⊢
        rw [cond_neg (by decide)]
        have X20 := (x2.trans x17).trans x20
        obtain ⟨a6, ha6, hc6⟩ := row5 (o1.ex X20).cells hq
        refine ⟨_, rfl, o20.cells, chkd_of ht0 (chkd_of hc (optP_of ha6 ⟨q.cells.toArray, rfl, hc6, ?_⟩))⟩
        refine callP.use (same_spec { y.1 with p := p2, c := c2 } q w20 ⟨(d17.ex x20).cells, hsm.len, hsm.few, hsm.wf⟩ ((hrs q hqm).ex (X1.trans X20))) ?_
        rintro _ w21 ⟨hv, _, x21⟩
        rw [hv (like_of_key hkq.1)]
        try dsimp only [dI_i64, dI_u8, dI_u16, dI_u32, dB_bool, dS_slice, dP_ptr, dT_tup, dA_agg, dStr_str, dF_f, dC_c, dM_m, optP_some, ga0, ga1, ga2, ga3, ga4, cond_true, cond_false, chk_true, Bool.not_true, Bool.not_false, Option.isNone_none, Option.isNone_some, List.toList_toArray]
        refine callP.use (Done_cons (G1.ex (X20.trans x21))) ?_
        rintro _ w23 ⟨rfl, k23, G23⟩
        try dsimp only [dI_i64, dI_u8, dI_u16, dI_u32, dB_bool, dS_slice, dP_ptr, dT_tup, dA_agg, dStr_str, dF_f, dC_c, dM_m, optP_some, ga0, ga1, ga2, ga3, ga4, cond_true, cond_false, chk_true, Bool.not_true, Bool.not_false, Option.isNone_none, Option.isNone_some, List.toList_toArray]
        rw [cond_neg (by decide), w64 (by omega) (by omega)]
        have X21 := X20.trans x21
        refine ⟨⟨rfl, rfl, rfl, rfl, by omega, by omega, (X1.trans X21).then k23 fun i hi => Nat.le_trans (Nat.le_of_eq hBB) hi.1, Nat.le_trans hB1 (Nat.le_trans X21.size k23.size), OwnO.mod (o1.ex X21) k23 (by decide) (by decide), ys, G23, ?_⟩, by ((try dsimp only); omega)⟩
        rw [show (t8 + 1).toNat = t8.toNat + 1 by omega]
        exact hkq.2
    · have hc := of_decide_eq_false hc
      have : t8 = (rs.length : Int) := by omega
      have hnil : ys = [] := by
        have := congrArg List.length hkeys
        simp only [keys, List.length_map, List.length_drop] at this
        exact List.eq_nil_of_length_eq_zero (by omega)
      subst hnil
      unfold stopcocklaw19_GateOrder.k3
      refine callP.use (Len_spec G1) ?_
      rintro _ w2 ⟨rfl, rfl⟩
      try dsimp only [dI_i64, dI_u8, dI_u16, dI_u32, dB_bool, dS_slice, dP_ptr, dT_tup, dA_agg, dStr_str, dF_f, dC_c, dM_m, optP_some, ga0, ga1, ga2, ga3, ga4, cond_true, cond_false, chk_true, Bool.not_true, Bool.not_false, Option.isNone_none, Option.isNone_some, List.toList_toArray]
      rw [cond_pos (by decide)]
      refine callP.use (Done_nil G1) ?_
      rintro _ w3 ⟨rfl, x3⟩
      try dsimp only [dI_i64, dI_u8, dI_u16, dI_u32, dB_bool, dS_slice, dP_ptr, dT_tup, dA_agg, dStr_str, dF_f, dC_c, dM_m, optP_some, ga0, ga1, ga2, ga3, ga4, cond_true, cond_false, chk_true, Bool.not_true, Bool.not_false, Option.isNone_none, Option.isNone_some, List.toList_toArray]
      exact Ret.mk ⟨rfl, X1.trans x3⟩
  refine cond_of (fun hc => ?_) (fun _ => out)
  have hc := of_decide_eq_true hc
  refine cond_of (fun hc2 => ?_) (fun _ => out)
  have hc2 := of_decide_eq_true hc2
  clear out
  obtain ⟨q, hq, hqm⟩ := getE (l := ls) (i := t5.toNat) (by omega)
  obtain ⟨a1, ha1, hc1⟩ := row5 (hlc.ex X1) hq
  refine chkd_of ht0 (chkd_of hc (optP_of ha1 ⟨q.cells.toArray, rfl, hc1, ?_⟩))
  refine callP.use (Submit_spec G1 hB1 X1 (Nat.le_of_eq hBB) q (hls q hqm) (by omega)) ?_
  rintro _ w6 hcase
  have skip : ∀ w6, Ex w1 w6 → (fun t0p' t0n' t0c' t3' t4p' t4n' t4c' t5' w' => (p0 = t0p' ∧ n0 = t0n' ∧ c0 = t0c' ∧ t3' = some ⟨B, 0, none⟩ ∧ 0 ≤ t5' ∧ t5' ≤ 40 ∧ Ex w w' ∧ B ≤ w'.heap.size ∧
    ∃ (rs : List Rq) (ys : List (Rq × Int)) (tk : Int), t4n' = rs.length ∧ (rs.length : Int) ≤ t5' ∧ OwnO w' B 29 5 t4p' t4n' t4c' (rs.map Rq.cells).flatten ∧ (∀ q ∈ rs, RqOk w q) ∧ GateIs w' B B ys tk ∧ 0 ≤ tk ∧ tk ≤ t5' ∧ keys ys = rs.map key) ∧ (40 - t5').toNat < (40 - t5).toNat)
      p0 n0 c0 (some (⟨B, 0, none⟩ : Addr)) t4p rs.length t4c (IntKind.i64.wrap (t5 + 1)) w6 := by
    intro w6 x6
    rw [w64 (by omega) (by omega)]
    exact ⟨⟨rfl, rfl, rfl, rfl, by omega, by omega, X1.trans x6, Nat.le_trans hB1 x6.size, rs, ys, tk, rfl, by omega, o1.ex x6, hrs, G1.ex x6, htk0, by omega, hkeys⟩, by omega⟩
  rcases hcase with ⟨_, rfl, x6⟩ | ⟨_, _, rfl, x6⟩ | ⟨_, _, rfl, k6, r', hlk, G6⟩
  · try dsimp only [dI_i64, dI_u8, dI_u16, dI_u32, dB_bool, dS_slice, dP_ptr, dT_tup, dA_agg, dStr_str, dF_f, dC_c, dM_m, optP_some, ga0, ga1, ga2, ga3, ga4, cond_true, cond_false, chk_true, Bool.not_true, Bool.not_false, Option.isNone_none, Option.isNone_some, List.toList_toArray]
    rw [cond_neg (by decide)]
    exact skip w6 x6
  · try dsimp only [dI_i64, dI_u8, dI_u16, dI_u32, dB_bool, dS_slice, dP_ptr, dT_tup, dA_agg, dStr_str, dF_f, dC_c, dM_m, optP_some, ga0, ga1, ga2, ga3, ga4, cond_true, cond_false, chk_true, Bool.not_true, Bool.not_false, Option.isNone_none, Option.isNone_some, List.toList_toArray]
    rw [cond_neg (by decide)]
    exact skip w6 x6
  clear skip
  try dsimp only [dI_i64, dI_u8, dI_u16, dI_u32, dB_bool, dS_slice, dP_ptr, dT_tup, dA_agg, dStr_str, dF_f, dC_c, dM_m, optP_some, ga0, ga1, ga2, ga3, ga4, cond_true, cond_false, chk_true, Bool.not_true, Bool.not_false, Option.isNone_none, Option.isNone_some, List.toList_toArray]
  rw [cond_pos (by decide)]
  have X6 : Ex w w6 := X1.then k6 fun i hi => Nat.le_trans (Nat.le_of_eq hBB) hi.1
  have hB6 : B ≤ w6.heap.size := Nat.le_trans hB1 k6.size
  obtain ⟨a2, ha2, hc2'⟩ := row5 (hlc.ex X6) hq
  refine chkd_of ht0 (chkd_of hc (optP_of ha2 ⟨q.cells.toArray, rfl, hc2', optP_of (fill_one _ _ _ _ _ _ _) ?_⟩))
  rintro b3 w8 rfl rfl
  have x8 := Ex.alloc w6 (.cells q.cells.toArray 29)
  have c8 : CellsO (w6.alloc (.cells q.cells.toArray 29)) (some ⟨w6.heap.size, 0, none⟩) q.cells := CellsO.alloc _ 29
  unfold Rq.cells at x8 c8
  generalize w6.alloc (.cells #[.int .i64 q.k, .int .i64 q.v, .int .i64 q.b, .int .i64 q.s, .slice q.p q.n q.c] 29) = w8 at x8 c8 ⊢
  have o8 := (OwnO.mod o1 k6 (by decide) (by decide)).ex x8
  have G8 := G6.ex x8
  refine appP_ownO o8 (Nat.le_trans hB6 x8.size) _ c8 rfl five_one rfl (by omega) (by omega) (fun p2 c2 w9 o9 k9 => ?_)
  rw [w64 (by omega) (by omega)]
  have t29 : ∀ i, (∃ x, t4p = some x ∧ x.block = i) → Typed w8 29 i := fun i ⟨x, hx, hi⟩ => hi ▸ (o8.typed hx).1
  refine ⟨⟨rfl, rfl, rfl, rfl, by omega, by omega, (X6.trans x8).then k9 fun i ⟨x, hx, hi⟩ => ?_, Nat.le_trans hB6 (Nat.le_trans x8.size k9.size), rs ++ [q], ys ++ [(r', tk + 1)], tk + 1, by simp, by simp; omega, ?_, ?_, ?_, by omega, by omega, ?_⟩, by omega⟩
  · have := (o8.typed hx).2.1
    omega
  · simpa [Rq.cells] using o9
  · intro x hx
    rcases List.mem_append.1 hx with hx | hx
    · exact hrs x hx
    · simp only [List.mem_singleton] at hx
      rw [hx]
      exact hls q hqm
  · obtain ⟨qq, cc, h1, h2, h3⟩ := G8
    exact ⟨qq, cc, h1.away k9 29 t29 (by decide), h2.away k9 29 t29 (by decide), fun x hx => ⟨(h3 x hx).1.away k9 29 t29 (by decide), (h3 x hx).2⟩⟩
  · simp only [keys, List.map_append, List.map_cons, List.map_nil] at hkeys ⊢
    rw [hkeys, key_of_like hlk]
end Go.Proofs.Ytpbnjjjglbnnpaa.G
