/-
  slices.Chunk's iterator, and spool.Save of up to six deltas on a plain device.
-/
import Derived.Test.YtnbegeghcjldfaaSpoolB
import Derived.Test.YtnbegeghcjldfaaDecY
namespace Go.Proofs.Ytnbegeghcjldfaa.G
open Go.Dec Go.RowKit
set_option linter.unusedVariables false
set_option linter.unusedSimpArgs false

theorem Chunk_spec (p : Option Addr) (n c : Nat) (w : World) : api_Delta.C p n c 6 w (Ret fun v w' => ∃ q0 q1, v = .func (.func 41) #[] #[.pointer (some ⟨q0, 0, none⟩), .pointer (some ⟨q1, 0, none⟩)] ∧ Ex w w' ∧ Owns w' w.heap.size ty_sl_api_Delta 1 (some ⟨q0, 0, none⟩) 1 1 [.slice p n c] ∧ Owns w' w.heap.size ty_int 1 (some ⟨q1, 0, none⟩) 1 1 [.int .i64 6]) := by
  apply api_Delta.ok
  unfold api_Delta.main
  rintro b1 w1 rfl rfl b2 w2 rfl rfl
  have o1 := Owns.new (w := w) [.slice p n c] ty_sl_api_Delta
  have x1 := Ex.alloc w (.cells [Value.slice p n c].toArray ty_sl_api_Delta)
  generalize w.alloc (.cells #[.slice p n c] ty_sl_api_Delta) = w1 at o1 x1 ⊢
  have o2 := Owns.new (w := w1) [.int .i64 6] ty_int
  have x2 := Ex.alloc w1 (.cells [Value.int .i64 6].toArray ty_int)
  generalize w1.alloc (.cells #[.int .i64 6] ty_int) = w2 at o2 x2 ⊢
  refine ⟨6, o2.at (by rfl), ?_⟩
  rw [condd_neg (by omega)]
  exact Ret.mk ⟨_, _, rfl, x1.trans x2, o1.ex x2, o2.lower x1.size⟩

theorem Chunk_seq {w : World} {B1 B2 q0 q1 : Nat} {p : Option Addr} {n c : Nat} (o0 : Owns w B1 ty_sl_api_Delta 1 (some ⟨q0, 0, none⟩) 1 1 [.slice p n c]) (o1 : Owns w B2 ty_int 1 (some ⟨q1, 0, none⟩) 1 1 [.int .i64 6]) (hn : 1 ≤ n ∧ n ≤ 6) (hcap : n ≤ c) :
    SeqStopsK Fence.wide 0 Try.prog 41 #[.pointer (some ⟨q0, 0, none⟩), .pointer (some ⟨q1, 0, none⟩)] (fun (_ : Unit) => #[.slice p n n]) (Keep2 q0 q1) (fun xs => xs = [()]) (fun xs => xs = [()]) 1 w := by
  intro l J Jx W hb hJ hJx hy h0
  have x := Kp.of_below hb
  have p0 := o0.kp x (fun a ha => by cases ha; have := (o0.ge rfl).2; dsimp only at this ⊢; omega)
  have p1 := o1.kp x (fun a ha => by cases ha; have := (o1.ge rfl).2; dsimp only at this ⊢; omega)
  show api_Delta_1_y.C l q0 q1 W _
  apply api_Delta_1_y.ok
  unfold api_Delta_1_y.main api_Delta_1_y.l1
  refine ⟨fun t0 t1 t2 t4 w' => l = t0 ∧ q0 = t1 ∧ q1 = t2 ∧ Cells2 q0 q1 (.slice p n c) (.int .i64 6) w' ∧ (t4 = 0 ∧ J [] w' ∨ t4 = 6 ∧ J [()] w'), fun t0 t1 t2 t4 w' => (6 - t4).toNat, ⟨rfl, rfl, rfl, ⟨p0.at (by rfl), p1.at (by rfl)⟩, .inl ⟨rfl, h0⟩⟩, ?_⟩
  rintro _ _ _ t4 w' ⟨rfl, rfl, rfl, ⟨c0, c1⟩, ht⟩
  unfold api_Delta_1_y.b1
  refine ⟨p, n, c, c0, ?_⟩
  rcases ht with ⟨rfl, hj⟩ | ⟨rfl, hj⟩
  · rw [condd_pos (by omega)]
    refine ⟨6, c1, p, n, c, c0, chk_of (by decide) (chk_of (decide_eq_true (by omega)) ⟨p, n, c, c0, ?_⟩)⟩
    have e1 : (((n - (0 : Int).toNat) : Nat) : Int) = (n : Int) := rfl
    rw [e1, min2_le (by omega), Int.zero_add, w64 (by omega) (by omega), Int.toNat_natCast]
    refine chk_of (decide_eq_true (by omega)) (chk_of (decide_eq_true (by omega)) (chk_of (decide_eq_true (by omega)) (chk_of (decide_eq_true (by omega)) (chk_of (by decide) (chk_of (decide_eq_true (by omega)) ?_)))))
    have e2 : (Value.slice (slA p n (0 : Int).toNat 5) (n - (0 : Int).toNat) (n - (0 : Int).toNat)) = Value.slice p n n := by
      show Value.slice (slA p n 0 5) (n - 0) (n - 0) = _
      rw [slA_zero, Nat.sub_zero]
    rw [e2]
    have hj' : J [] w'.drew := hJ _ _ _ none hj (grown_drew w') (fun r e => by cases e)
    obtain ⟨fn, tmps, assign, body, hrun, hround⟩ := hy [] () w'.drew hj' (by decide)
    refine ⟨fn, tmps, assign, body, hrun, hround.mono fun e w1 he => ?_⟩
    rcases he with ⟨rfl, hj1, hk⟩ | ⟨rfl, hj1⟩
    · refine ⟨_, rfl, ?_⟩
      try dsimp only [dI_i64, dI_u8, dI_u16, dI_u32, dB_bool, dS_slice, dP_ptr, dT_tup, dA_agg, dStr_str, dF_f, dC_c, dM_m, optP_some, ga0, ga1, ga2, ga3, ga4, cond_true, cond_false, chk_true, Bool.not_true, Bool.not_false, Option.isNone_none, Option.isNone_some, List.toList_toArray]
      have hk' := hk _ _ ⟨c0, c1⟩
      refine ⟨6, hk'.2, ?_⟩
      rw [Int.zero_add, w64 (by omega) (by omega)]
      exact ⟨⟨rfl, rfl, rfl, hk', .inr ⟨rfl, hj1⟩⟩, by ((try dsimp only); omega)⟩
    · refine ⟨_, rfl, ?_⟩
      try dsimp only [dI_i64, dI_u8, dI_u16, dI_u32, dB_bool, dS_slice, dP_ptr, dT_tup, dA_agg, dStr_str, dF_f, dC_c, dM_m, optP_some, ga0, ga1, ga2, ga3, ga4, cond_true, cond_false, chk_true, Bool.not_true, Bool.not_false, Option.isNone_none, Option.isNone_some, List.toList_toArray]
      exact ⟨⟨_, rfl⟩, .inr ⟨_, rfl, hj1⟩⟩
  · rw [condd_neg (by omega)]
    exact ⟨⟨_, rfl⟩, .inl ⟨_, rfl, hj⟩⟩

/-! ### Save -/
/-- behind the only round -/
structure Saved (w : World) (B pd : Nat) (d : Bas.Dev) (D : Nat → Prop) (t6 t8 t9 : Nat) (u : Int) (W : World) : Prop where
  dev : ∃ D', Bas.DevIs W B pd d D' ∧ ∀ i, D' i → D i ∨ w.heap.size ≤ i
  good : Bas.Good d
  kept : Kp w W D
  o6 : Owns W w.heap.size ty_int 1 (some ⟨t6, 0, none⟩) 1 1 [.int .i64 u]
  o8 : Owns W w.heap.size ty_int 1 (some ⟨t8, 0, none⟩) 1 1 [.int .i64 0]
  o9 : Owns W w.heap.size ty_api_Errno 1 (some ⟨t9, 0, none⟩) 1 1 [.int .i64 0]
theorem DevIs.grown {W W' : World} {B pd C : Nat} {d : Bas.Dev} {D : Nat → Prop} (h : Bas.DevIs W B pd d D) (k : Kp W W' (NoC W C)) : Bas.DevIs W' B pd d D :=
  h.kp k fun i hi hn => by
    rcases (h.typed hi).1 with t | t | t <;> exact hn.typed t
theorem Saved.grown {w W W' : World} {B pd C : Nat} {d : Bas.Dev} {D : Nat → Prop} {t6 t8 t9 : Nat} {u : Int} (h : Saved w B pd d D t6 t8 t9 u W) (k : Kp W W' (NoC W C)) (hC : w.heap.size ≤ C) : Saved w B pd d D t6 t8 t9 u W' := by
  obtain ⟨⟨D', h1, h2⟩, h3, h4, h5, h6, h7⟩ := h
  exact ⟨⟨D', DevIs.grown h1 k, h2⟩, h3, h4.later k hC, h5.grown k, h6.grown k, h7.grown k⟩
theorem Save_spec {w : World} {B pd : Nat} {d : Bas.Dev} {D : Nat → Prop} (h : Bas.DevIs w B pd d D) (hg : Bas.Good d) (hB : B ≤ w.heap.size) (hlen : d.now.length = 60) (hoff : d.off = false) (haft : d.after = -1) (hcnt : d.loose.length ≤ 1000)
    {seq : Int} (hs : 1 ≤ seq ∧ seq ≤ 1073741824) {u : Nat} (hu : u < 16) {BL : Nat} {p : Option Addr} {n c : Nat} {l : List Dl} (ol : Owns w BL ty_api_Delta 5 p n c (dcells l)) (hl : l.length = n) (hn : 1 ≤ n ∧ n ≤ 6) (hw : ∀ d ∈ l, d.wf) (hf : ∀ d ∈ l, chk0 d = 0) :
    spool_Save.C (some ⟨pd, 0, none⟩) seq u p n c w (Ret fun v w' => v = .tuple #[.int .i64 ((u + 1 : Nat) : Int), .int .i64 0] ∧ Bas.After w B pd (Bas.put1 d ((24 + u : Nat) : Int) (sealed (secB seq u l))) D w') := by
  apply spool_Save.ok
  unfold spool_Save.main
  rintro b1 w1 rfl rfl b2 w2 rfl rfl b3 w3 rfl rfl b4 w4 rfl rfl b5 w5 rfl rfl
  have o1 := Owns.new (w := w) [.pointer (some ⟨pd, 0, none⟩)] ty_pt_basin_Basin
  have x1 := Ex.alloc w (.cells [Value.pointer (some ⟨pd, 0, none⟩)].toArray ty_pt_basin_Basin)
  generalize hb1 : w.heap.size = b1 at o1
  generalize w.alloc (.cells #[.pointer (some ⟨pd, 0, none⟩)] ty_pt_basin_Basin) = w1 at o1 x1 ⊢
  have o2 := Owns.new (w := w1) [.int .i64 seq] ty_int
  have x2 := Ex.alloc w1 (.cells [Value.int .i64 seq].toArray ty_int)
  have s2 := x1.size
  have l2 : w1.heap.size < (w1.alloc (.cells [Value.int .i64 seq].toArray ty_int)).heap.size := (o2.ge rfl).2
  generalize hb2 : w1.heap.size = b2 at o2 s2 l2
  generalize w1.alloc (.cells #[.int .i64 seq] ty_int) = w2 at o2 x2 l2 ⊢
  have o3 := Owns.new (w := w2) [.int .i64 (u : Int)] ty_int
  have x3 := Ex.alloc w2 (.cells [Value.int .i64 (u : Int)].toArray ty_int)
  have l3 : w2.heap.size < (w2.alloc (.cells [Value.int .i64 (u : Int)].toArray ty_int)).heap.size := (o3.ge rfl).2
  generalize hb3 : w2.heap.size = b3 at o3 l2 l3
  generalize w2.alloc (.cells #[.int .i64 (u : Int)] ty_int) = w3 at o3 x3 l3 ⊢
  have o4 := Owns.new (w := w3) [.int .i64 0] ty_int
  have x4 := Ex.alloc w3 (.cells [Value.int .i64 0].toArray ty_int)
  have l4 : w3.heap.size < (w3.alloc (.cells [Value.int .i64 0].toArray ty_int)).heap.size := (o4.ge rfl).2
  generalize hb4 : w3.heap.size = b4 at o4 l3 l4
  generalize w3.alloc (.cells #[.int .i64 0] ty_int) = w4 at o4 x4 l4 ⊢
  have o5 := Owns.new (w := w4) [.int .i64 0] ty_api_Errno
  have x5 := Ex.alloc w4 (.cells [Value.int .i64 0].toArray ty_api_Errno)
  generalize hb5 : w4.heap.size = b5 at o5 l4
  generalize w4.alloc (.cells #[.int .i64 0] ty_api_Errno) = w5 at o5 x5 ⊢
  have o1 := (o1.ex (x2.trans (x3.trans (x4.trans x5)))).lower (show w.heap.size ≤ b1 by omega)
  have o2 := (o2.ex (x3.trans (x4.trans x5))).lower (show w.heap.size ≤ b2 by omega)
  have o3 := (o3.ex (x4.trans x5)).lower (show w.heap.size ≤ b3 by omega)
  have o4 := (o4.ex x5).lower (show w.heap.size ≤ b4 by omega)
  have o5 := o5.lower (show w.heap.size ≤ b5 by omega)
  have hx5 := x1.trans (x2.trans (x3.trans (x4.trans x5)))
  clear x1 x2 x3 x4 x5
  refine ⟨some ⟨pd, 0, none⟩, o1.at (by rfl), ?_⟩
  rw [cond_neg (by rfl)]
  refine ⟨seq, o2.at (by rfl), ?_⟩
  rw [condd_neg (by omega)]
  refine ⟨seq, o2.at (by rfl), ?_⟩
  rw [condd_neg (by omega)]
  refine ⟨u, o3.at (by rfl), ?_⟩
  rw [condd_neg (by omega)]
  refine ⟨u, o3.at (by rfl), ?_⟩
  rw [condd_neg (by omega)]
  unfold spool_Save.l1
  refine ⟨fun t3p t3n t3c t4 t5 t6 t8 t9 t34p t34n t34c t35 t36 w' => p = t3p ∧ n = t3n ∧ c = t3c ∧ b1 = t4 ∧ b2 = t5 ∧ b3 = t6 ∧ b4 = t8 ∧ b5 = t9 ∧ p = t34p ∧ n = t34n ∧ c = t34c ∧ t35 = (n : Int) ∧ 0 ≤ t36 ∧ t36 ≤ n ∧ Ex w5 w',
    fun t3p t3n t3c t4 t5 t6 t8 t9 t34p t34n t34c t35 t36 w' => (n - t36).toNat, ⟨rfl, rfl, rfl, rfl, rfl, rfl, rfl, rfl, rfl, rfl, rfl, rfl, by omega, by omega, Ex.refl _⟩, ?_⟩
  rintro _ _ _ _ _ _ _ _ _ _ _ _ t36 w' ⟨rfl, rfl, rfl, rfl, rfl, rfl, rfl, rfl, rfl, rfl, rfl, rfl, h0, h1, hx⟩
  unfold spool_Save.b1
  refine cond_of (fun hj => ?_) (fun hj => ?_)
  · have hj := of_decide_eq_true hj
    obtain ⟨j, rfl⟩ := Int.eq_ofNat_of_zero_le h0
    obtain ⟨e, he, hm, _⟩ := Bas.getE (show j < l.length by omega)
    refine chk_of (decide_eq_true h0) (chk_of (decide_eq_true hj) ?_)
    obtain ⟨a, rfl, hrow⟩ := drow ((ol.cells.ex hx5).ex hx) he
    try dsimp only [dI_i64, dI_u8, dI_u16, dI_u32, dB_bool, dS_slice, dP_ptr, dT_tup, dA_agg, dStr_str, dF_f, dC_c, dM_m, optP_some, ga0, ga1, ga2, ga3, ga4, cond_true, cond_false, chk_true, Bool.not_true, Bool.not_false, Option.isNone_none, Option.isNone_some, List.toList_toArray]
    refine ⟨e.cells.toArray, rfl, hrow, ?_⟩
    rintro b6 w6 rfl rfl
    have o6 := Owns.new (w := w') zcells ty_api_Delta
    have x6 := Ex.alloc w' (.cells zcells.toArray ty_api_Delta)
    unfold zcells at o6 x6
    generalize w'.alloc (.cells #[.int .i64 0, .int .i64 0, .int .i64 0, .int .i64 0, .complex .f64 0 0] ty_api_Delta) = w6 at o6 x6 ⊢
    refine chk_of (by rfl) ?_
    refine o6.put (by rfl) cells_one fun w7 k7 o7 => ?_
    have x7 : Ex w' w7 := x6.then k7 fun i hi => hi ▸ Nat.le_refl _
    refine ⟨e.cells.toArray, rfl, o7.cells, ?_⟩
    refine callP.use (Check_spec (hw e hm) _) ?_
    rintro _ w8 ⟨rfl, x8⟩
    try dsimp only [dI_i64, dI_u8, dI_u16, dI_u32, dB_bool, dS_slice, dP_ptr, dT_tup, dA_agg, dStr_str, dF_f, dC_c, dM_m, optP_some, ga0, ga1, ga2, ga3, ga4, cond_true, cond_false, chk_true, Bool.not_true, Bool.not_false, Option.isNone_none, Option.isNone_some, List.toList_toArray]
    rw [hf e hm, cond_neg (by rfl)]
    have en : IntKind.i64.wrap ((j : Int) + 1) = ((j + 1 : Nat) : Int) := by rw [w64 (by omega) (by omega)]; rfl
    rw [en]
    exact ⟨⟨rfl, rfl, rfl, rfl, rfl, rfl, rfl, rfl, rfl, rfl, rfl, rfl, by omega, by omega, hx.trans (x7.trans x8)⟩, by ((try dsimp only); omega)⟩
  · unfold spool_Save.k1
    have o1 := o1.ex hx
    have o2 := o2.ex hx
    have o3 := o3.ex hx
    have o4 := o4.ex hx
    have o5 := o5.ex hx
    have hx := hx5.trans hx
    clear hx5
    refine ⟨u, o3.at (by rfl), ?_⟩
    rw [w64 (x := 16 - (u : Int)) (by omega) (by omega), w64 (by omega) (by omega), condd_neg (by omega)]
    refine callP.use (Chunk_spec p n c w') ?_
    rintro _ w24 ⟨q0, q1, rfl, x24, p0, p1⟩
    refine chk_of (by rfl) ?_
    have hw24 := hx.trans x24
    have h24 := h.ex hw24
    have o1 := o1.ex x24
    have o2 := o2.ex x24
    have o4 := o4.ex x24
    have o5 := o5.ex x24
    have hlt3 : b3 < w'.heap.size := (o3.ge rfl).2
    have o3 := o3.ex x24
    have ol24 := ol.ex hw24
    have hq1 : w'.heap.size ≤ q1 := (p1.ge rfl).1
    refine ⟨Unit, fun _ => .slice p n n, Keep2 q0 q1, fun xs => xs = [()], fun xs => xs = [()], 1, fun xs W => (xs = [] ∧ Ex w24 W) ∨ (xs = [()] ∧ Saved w B pd (Bas.put1 d ((24 + u : Nat) : Int) (sealed (secB seq u l))) D b3 b4 b5 ((u + 1 : Nat) : Int) W), fun _ _ => False, ?_, ?_, ?_, ?_⟩
    · refine ⟨Chunk_seq p0 p1 hn ol.2.1, fun h k => h.trans k, fun W l o o' _ ho hc _ => Keep2.book W l o o' ho hc, ?_, fun _ _ _ _ h => h.elim, .inl ⟨rfl, Ex.refl _⟩⟩
      intro xs W W' row hI hgr hr
      have k := Kp.grown hgr hr
      rcases hI with ⟨rfl, hI⟩ | ⟨rfl, hI⟩
      · exact .inl ⟨rfl, hI.later k (Nat.le_refl _)⟩
      · exact .inr ⟨rfl, hI.grown k hw24.size⟩
    · intro pre x w26 hI hpre
      rcases hI with ⟨rfl, hI⟩ | ⟨rfl, hI⟩
      · have o1 := o1.ex hI
        have o2 := o2.ex hI
        have o3 := o3.ex hI
        have o4 := o4.ex hI
        have o5 := o5.ex hI
        have h26 := h24.ex hI
        have r0 := p0.ex hI
        have r1 := p1.ex hI
        have hw26 := hw24.trans hI
        refine ⟨seq, o2.at (by rfl), u, o3.at (by rfl), ?_⟩
        have h64 : (secB seq u l).length ≤ 60 := by rw [secB_len]; omega
        have hsec : Bas.Sec (sealed (secB seq u l)) := ⟨sealed_length h64, seal_bytes (secB_bytes hw hf)⟩
        refine callP.use (sector_spec seq u p n n l w26 ⟨by omega, by omega⟩ (ol24.ex hI).cells hl hn.2 hw hf) ?_
        rintro _ w29 ⟨q, e, rfl, oq, x29⟩
        try dsimp only [dI_i64, dI_u8, dI_u16, dI_u32, dB_bool, dS_slice, dP_ptr, dT_tup, dA_agg, dStr_str, dF_f, dC_c, dM_m, optP_some, ga0, ga1, ga2, ga3, ga4, cond_true, cond_false, chk_true, Bool.not_true, Bool.not_false, Option.isNone_none, Option.isNone_some, List.toList_toArray]
        rw [cond_pos (by rfl)]
        refine ⟨some ⟨pd, 0, none⟩, (o1.ex x29).at (by rfl), u, (o3.ex x29).at (by rfl), ?_⟩
        have e24 : IntKind.i64.wrap (24 + (u : Int)) = ((24 + u : Nat) : Int) := by rw [w64 (by omega) (by omega)]; omega
        rw [e24]
        rintro b7 w31 rfl rfl
        have o7 := Owns.new (w := w29) [.int .i64 ((24 + u : Nat) : Int), .slice q 64 e] ty_api_Write
        have x31 := Ex.alloc w29 (.cells [Value.int .i64 ((24 + u : Nat) : Int), .slice q 64 e].toArray ty_api_Write)
        generalize w29.alloc (.cells #[.int .i64 ((24 + u : Nat) : Int), .slice q 64 e] ty_api_Write) = w31 at o7 x31 ⊢
        have x2631 := x29.trans x31
        have hput := Bas.put_live (d := d) haft hoff (i := ((24 + u : Nat) : Int)) (s := sealed (secB seq u l)) ⟨by omega, by rw [hlen]; omega⟩ hsec.1
        have hP := Bas.PutOne (h26.ex x2631) hg (Nat.le_trans hB (hw26.trans x2631).size) o7 (oq.ex x31) hsec (by omega)
        rw [hput] at hP
        refine callP.use hP ?_
        rintro _ w32 ⟨rfl, D', h32, hg32, k32, hD'⟩
        try dsimp only [dI_i64, dI_u8, dI_u16, dI_u32, dB_bool, dS_slice, dP_ptr, dT_tup, dA_agg, dStr_str, dF_f, dC_c, dM_m, optP_some, ga0, ga1, ga2, ga3, ga4, cond_true, cond_false, chk_true, Bool.not_true, Bool.not_false, Option.isNone_none, Option.isNone_some, List.toList_toArray]
        rw [cond_neg (by rfl)]
        have off : ∀ {e : TypeId} {sz : Nat} {p : Option Addr} {n c B' : Nat} {xs : List Value}, Owns w26 B' e sz p n c xs → e ≠ ty_basin_Basin → e ≠ ty_basin_sector → e ≠ ty_basin_write → Owns w32 B' e sz p n c xs :=
          fun o g1 g2 g3 => Bas.off_dev (h26.ex x2631) k32 (o.ex x2631) g1 g2 g3
        have o3' := off o3 (by decide) (by decide) (by decide)
        have o4' := off o4 (by decide) (by decide) (by decide)
        have o5' := off o5 (by decide) (by decide) (by decide)
        have r0' := off r0 (by decide) (by decide) (by decide)
        have r1' := off r1 (by decide) (by decide) (by decide)
        refine ⟨u, o3'.at (by rfl), ?_⟩
        have eu : IntKind.i64.wrap ((u : Int) + 1) = ((u + 1 : Nat) : Int) := by rw [w64 (by omega) (by omega)]; rfl
        rw [eu]
        refine o3'.put1 (Nat.lt_succ_self 0) (by rfl) fun w36 k36 o36 => ?_
        have kD : Kp w26 w36 fun i => D i ∨ i = b3 := Kp.trans ((x2631.kp D).tr k32) k36 (fun i _ h => .inl h) (fun i _ h => .inr h)
        have h36 : Bas.DevIs w36 B pd (Bas.put1 d ((24 + u : Nat) : Int) (sealed (secB seq u l))) D' := h32.kp k36 fun i hi e => by
          subst e
          have t := (o3'.typed rfl).1
          rcases (h32.typed hi).1 with t' | t' | t'
          · exact t.ne t' (by decide) rfl
          · exact t.ne t' (by decide) rfl
          · exact t.ne t' (by decide) rfl
        refine ⟨KeepsOthers.of_kp kD ?_, ?_, .inr ⟨rfl, ⟨D', h36, fun i hi => ?_⟩, hg32, ?_, o36, o4'.kp k36 ?_, o5'.kp k36 ?_⟩⟩
        · rintro i _ (hi | rfl)
          · rcases (h26.typed hi).1 with t | t | t <;> exact ⟨_, t⟩
          · exact ⟨_, (o3.typed rfl).1⟩
        · intro v0 v1 hc
          have a0 := r0.at (j := 0) (by rfl)
          have a1 := r1.at (j := 0) (by rfl)
          have e0 := hc.1.symm.trans a0
          have e1 := hc.2.symm.trans a1
          cases e0
          cases e1
          have hq0 : q0 ≠ b3 := fun e => by subst e; exact (r0.typed rfl).1.ne (o3.typed rfl).1 (by decide) rfl
          exact ⟨(r0'.kp k36 fun x hx => by cases hx; exact hq0).at (by rfl), (r1'.kp k36 fun x hx => by cases hx; dsimp only; omega).at (by rfl)⟩
        · rcases hD' i hi with hi | hi
          · exact .inl hi
          · exact .inr (Nat.le_trans (hw26.trans x2631).size hi)
        · refine Kp.trans (hw26.kp D) kD (fun i _ h => h) (fun i hi hs => ?_)
          rcases hs with hs | rfl
          · exact hs
          · omega
        · intro x hx
          cases hx
          dsimp only
          omega
        · intro x hx
          cases hx
          dsimp only
          omega
      · simp at hpre
    · intro D0 xs w27 hD0 hxs hI hdef
      subst hxs
      rcases hI with ⟨hI, _⟩ | ⟨_, hI⟩
      · cases hI
      obtain ⟨⟨D', g1, g2⟩, g3, g4, p6, p8, p9⟩ := hI
      refine ⟨_, p6.at (by rfl), ?_⟩
      refine p8.put1 (Nat.lt_succ_self 0) (by rfl) fun w40 k40 o40 => ?_
      have p9' := p9.kp k40 (fun x hx => by cases hx; dsimp only; omega)
      refine p9'.put1 (Nat.lt_succ_self 0) (by rfl) fun w41 k41 o41 => ?_
      have o40' := o40.kp k41 (fun x hx => by cases hx; dsimp only; omega)
      have hne : ∀ {b B' : Nat} {e : TypeId} {W : World} {xs : List Value} {sz n c : Nat}, Owns W B' e sz (some ⟨b, 0, none⟩) n c xs → W.heap[D0]? = some (.deferred (some [])) → D0 ≠ b := fun o hd e => by
        obtain ⟨cur, fr, ht⟩ := (o.typed rfl).1
        dsimp only at ht
        rw [← e, hd] at ht
        cases ht
      have hd40 : w40.heap[D0]? = some (.deferred (some [])) := by
        rw [k40.block D0 (Array.getElem?_eq_some_iff.1 hdef).1 (hne p8 hdef)]
        exact hdef
      have hd41 : w41.heap[D0]? = some (.deferred (some [])) := by
        rw [k41.block D0 (Array.getElem?_eq_some_iff.1 hd40).1 (hne p9' hd40)]
        exact hd40
      refine ⟨hd41, ?_⟩
      have k42 := Kp.putObj w41 D0 (.deferred none)
      have o8f := o40'.kp k42 (fun x hx => by cases hx; exact fun e => hne o40' hd41 e.symm)
      have o9f := o41.kp k42 (fun x hx => by cases hx; exact fun e => hne o41 hd41 e.symm)
      refine ⟨_, o8f.at (by rfl), _, o9f.at (by rfl), ?_⟩
      have hb4' : w.heap.size ≤ b4 := by omega
      have hD : w.heap.size ≤ D0 := Nat.le_trans hw24.size hD0
      have k3 : Kp w27 (w41.putObj D0 (.deferred none)) fun i => i = b4 ∨ i = b5 ∨ i = D0 := Kp.trans (Kp.trans k40 k41 (fun i _ h => .inl h) (fun i _ h => .inr h)) k42 (fun i _ h => by rcases h with h | h; exact .inl h; exact .inr (.inl h)) (fun i _ h => .inr (.inr h)) (T := fun i => i = D0) (S := fun i => i = b4 ∨ i = b5)
      refine Ret.mk ⟨rfl, D', g1.kp k3 fun i hi hs => ?_, g3, Kp.trans g4 k3 (fun i _ h => h) (fun i hi hs => absurd hs (by omega)), g2⟩
      have ht := (g1.typed hi).1
      rcases hs with rfl | rfl | rfl
      · have t := (p8.typed rfl).1
        rcases ht with t' | t' | t'
        · exact t.ne t' (by decide) rfl
        · exact t.ne t' (by decide) rfl
        · exact t.ne t' (by decide) rfl
      · have t := (p9.typed rfl).1
        rcases ht with t' | t' | t'
        · exact t.ne t' (by decide) rfl
        · exact t.ne t' (by decide) rfl
        · exact t.ne t' (by decide) rfl
      · have : NoC w27 0 i := ⟨Nat.zero_le _, _, hdef, rfl⟩
        rcases ht with t | t | t <;> exact this.typed t
    · intro D0 pre w28 _ _ hI _
      exact hI.elim
end Go.Proofs.Ytnbegeghcjldfaa.G
