/-
  The law LeafDecodes: leaf.Decode and the document's Decode answer the same.
-/
import Derived.Test.YtokepljpieboiaaLeafZC
import Derived.Test.YtokepljpieboiaaDecS
namespace Go.Proofs.Ytokepljpieboiaa.G.En
open Go.Dec Go.RowKit
set_option linter.unusedVariables false
set_option linter.unusedSimpArgs false

/-! ### Structs of two numbers -/
theorem part_at {w : World} {t off : Nat} {cs : Array Value} {v : Value} (h : partP cx t cs off fun u => u = v) : (part t cs off).run Try.prog w = .ok v w := by
  obtain ⟨u, hu, rfl⟩ := partP_sound (H := w.heap) cxok h
  exact hu w rfl
theorem two_self {t : TypeId} {m0 m1 : String} (h0 : m0 ≠ "_") (h1 : m1 ≠ "_") (hfs : (Try.prog.fieldsOf t).toList = [⟨m0, ty_int, 0, false, "", "", 0⟩, ⟨m1, ty_int, 1, false, "", "", 8⟩]) (ht : Try.prog.underlying t = some (.struct (Try.prog.fieldsOf t))) (hp : Try.prog.stoodInHeld t = false) (a b : Int) (w : World) :
    (Op.equalIn 10000 t (.agg (two a b).toArray) (.agg (two a b).toArray)).run Try.prog w = .ok true w := by
  have p0 : ∀ w : World, (part ty_int (two a b).toArray 0).run Try.prog w = .ok (.int .i64 a) w := fun w => part_at (by rfl)
  have p1 : ∀ w : World, (part ty_int (two a b).toArray 1).run Try.prog w = .ok (.int .i64 b) w := fun w => part_at (by rfl)
  have hi : ∀ (a : Int) (w : World), (Op.equalIn 9999 ty_int (.int .i64 a) (.int .i64 a)).run Try.prog w = .ok true w := fun a w => by
    have := run_equalIn_int (P := Try.prog) w 9998 ty_int .i64 .i64 a a (by kernel_rfl)
    simpa using this
  rw [run_equalIn_struct w 9999 t _ _ ht hp, hfs]
  generalize (9999 : Nat) = dd at hi ⊢
  clear hfs ht hp
  generalize (two a b).toArray = cs at p0 p1 ⊢
  generalize ty_int = ti at p0 p1 hi ⊢
  simp only [Op.eqFields, ne_eq, h0, h1, not_false_eq_true, if_true, Sem.run_bind, p0, p1, hi, Result.andThen_ok, Bool.not_true, Bool.false_eq_true, if_false, Sem.run_pure]
theorem ent_self (a b : Int) (xo yo : Operand) : eqRun Try.prog .neq ty_api_Entry xo yo (.agg (two a b).toArray) (.agg (two a b).toArray) false := by
  intro w
  rw [Sem.run_bind, run_eqGuard_agg w .neq ty_api_Entry xo yo _ _ (by kernel_rfl), Result.andThen_ok, run_neq_struct, two_self (m0 := "Kind") (m1 := "Size") (by decide) (by decide) (by kernel_rfl) (by kernel_rfl) (by kernel_rfl) a b w]
  rfl
theorem plat_self (a b : Int) (xo yo : Operand) : eqRun Try.prog .eql ty_api_Plat xo yo (.agg (two a b).toArray) (.agg (two a b).toArray) true := by
  intro w
  rw [Sem.run_bind, run_eqGuard_agg w .eql ty_api_Plat xo yo _ _ (by kernel_rfl), Result.andThen_ok, run_eql_struct, two_self (m0 := "Segments") (m1 := "Blocks") (by decide) (by decide) (by kernel_rfl) (by kernel_rfl) (by kernel_rfl) a b w]
  rfl

/-! ### The same states -/
theorem Same1_spec {w : World} {p q : Option Addr} {n c d : Nat} {l : List Pl} (hc : CellsO w p (l.map plV)) (hd : CellsO w q (l.map plV)) (hn : l.length = n) (hl : n ≤ 1000) (ho : ∀ q ∈ l, okPl q) : stopcockref01_Same.C p n c q n d w (Ret fun v w' => v = .bool true ∧ Ex w w') := by
  apply stopcockref01_Same.ok
  unfold stopcockref01_Same.main
  rw [cond_neg (by simp)]
  unfold stopcockref01_Same.l1
  refine ⟨fun t0p t0n t0c t1p t1n t1c t5 w' => p = t0p ∧ n = t0n ∧ c = t0c ∧ q = t1p ∧ n = t1n ∧ d = t1c ∧ 0 ≤ t5 ∧ t5 ≤ n ∧ Ex w w', fun t0p t0n t0c t1p t1n t1c t5 w' => (n - t5).toNat, ⟨rfl, rfl, rfl, rfl, rfl, rfl, by omega, by omega, Ex.refl w⟩, ?_⟩
  rintro _ _ _ _ _ _ t5 w' ⟨rfl, rfl, rfl, rfl, rfl, rfl, h0, h1, hx⟩
  unfold stopcockref01_Same.b1
  refine cond_of (fun h => ?_) (fun _ => Ret.mk ⟨rfl, hx⟩)
  have h := of_decide_eq_true h
  obtain ⟨j, rfl⟩ := Int.eq_ofNat_of_zero_le h0
  have hj : j < l.length := by omega
  obtain ⟨a, rfl, ra⟩ := pl_get (hc.ex hx) hj
  obtain ⟨b, rfl, rb⟩ := pl_get (hd.ex hx) hj
  refine chk_of (decide_eq_true h0) (chk_of (decide_eq_true h) ?_)
  try dsimp only [dI_i64, dI_u8, dI_u16, dI_u32, dB_bool, dS_slice, dP_ptr, dT_tup, dA_agg, dStr_str, dF_f, dC_c, dM_m, optP_some, ga0, ga1, ga2, ga3, ga4, cond_true, cond_false, chk_true, Bool.not_true, Bool.not_false, Option.isNone_none, Option.isNone_some, List.toList_toArray]
  rw [Int.toNat_natCast, Nat.mul_one]
  refine ⟨_, _, ra, chk_of (decide_eq_true h0) (chk_of (decide_eq_true h) ?_)⟩
  try dsimp only [dI_i64, dI_u8, dI_u16, dI_u32, dB_bool, dS_slice, dP_ptr, dT_tup, dA_agg, dStr_str, dF_f, dC_c, dM_m, optP_some, ga0, ga1, ga2, ga3, ga4, cond_true, cond_false, chk_true, Bool.not_true, Bool.not_false, Option.isNone_none, Option.isNone_some, List.toList_toArray]
  refine ⟨_, _, rb, fun k => ?_⟩
  have hk := ho _ (List.getElem_mem hj)
  rw [pl_eq hk hk, decide_eq_true rfl, cond_neg (by rfl), w64 (by omega) (by omega)]
  exact ⟨⟨rfl, rfl, rfl, rfl, rfl, rfl, by omega, by omega, hx.trans (Ex.drewN _ _)⟩, by ((try dsimp only); omega)⟩
theorem Same_spec {w : World} {R : Sta} {ps qs : List Value} (h : StAt w R ps) (g : StAt w R qs) : stopcockref07_Same.C (stC R ps).toArray (stC R qs).toArray w (Ret fun v w' => v = .bool true ∧ Ex w w') := by
  apply stopcockref07_Same.ok
  unfold stopcockref07_Same.main
  rintro b1 w1 rfl rfl b2 w2 rfl rfl
  have o1 := Owns.new (w := w) (stC R ps) ty_api_State
  have x1 := Ex.alloc w (.cells (stC R ps).toArray ty_api_State)
  generalize w.heap.size = b1 at o1 ⊢
  generalize w.alloc (.cells (stC R ps).toArray ty_api_State) = w1 at o1 x1 ⊢
  have o2 := Owns.new (w := w1) (stC R qs) ty_api_State
  have x2 := Ex.alloc w1 (.cells (stC R qs).toArray ty_api_State)
  generalize w1.heap.size = b2 at o2 ⊢
  generalize w1.alloc (.cells (stC R qs).toArray ty_api_State) = w2 at o2 x2 ⊢
  have o1 := o1.ex x2
  have hx2 := x1.trans x2
  have h := h.ex hx2
  have g := g.ex hx2
  unfold stopcockref07_Same.l1
  refine ⟨fun t2 t3 t5 w' => b1 = t2 ∧ b2 = t3 ∧ 0 ≤ t5 ∧ t5 ≤ 8 ∧ Ex w2 w', fun t2 t3 t5 w' => (8 - t5).toNat, ⟨rfl, rfl, by omega, by omega, Ex.refl _⟩, ?_⟩
  rintro _ _ t5 w' ⟨rfl, rfl, h0, h8, hx⟩
  unfold stopcockref07_Same.b1
  obtain ⟨k, rfl⟩ := Int.eq_ofNat_of_zero_le h0
  refine cond_of (fun hlt => ?_) (fun hlt => Ret.mk ⟨rfl, hx2.trans hx⟩)
  have hlt := of_decide_eq_true hlt
  have hk : k < 8 := by omega
  obtain ⟨e, he⟩ := h.get hk
  obtain ⟨p, c, hp, hcp⟩ := h.row k e he
  obtain ⟨q, d, hq, hcq⟩ := g.row k e he
  obtain ⟨hok, hl, _, _⟩ := h.ok e (List.mem_of_getElem? he)
  have xd := hx.trans (Ex.drew w')
  have pair1 : CellsAt w'.drew ((⟨b1, 0, none⟩ : Addr).add (k * 2)) (two e.1 e.2.1) := by
    have := CellsO.take (a := some ((⟨b1, 0, none⟩ : Addr).add (k * 2))) (CellsAt.drop (o1.ex xd).cells (k * 2)) 2
    rw [h.pair2 he] at this
    exact this
  have pair2 : CellsAt w'.drew ((⟨b2, 0, none⟩ : Addr).add (k * 2)) (two e.1 e.2.1) := by
    have := CellsO.take (a := some ((⟨b2, 0, none⟩ : Addr).add (k * 2))) (CellsAt.drop (o2.ex xd).cells (k * 2)) 2
    rw [g.pair2 he] at this
    exact this
  refine chk_of (decide_eq_true h0) (chk_of (decide_eq_true hlt) ?_)
  rw [Int.toNat_natCast]
  refine ⟨(two e.1 e.2.1).toArray, rfl, pair1, chk_of (decide_eq_true h0) (chk_of (decide_eq_true hlt) ⟨(two e.1 e.2.1).toArray, rfl, pair2, false, ent_self _ _ _ _, ?_⟩)⟩
  rw [cond_neg rfl]
  refine chk_of (decide_eq_true h0) (chk_of (decide_eq_true hlt) ?_)
  rw [addr16]
  refine ⟨p, e.2.2.length, c, (o1.ex xd).at (by rw [h.place, hp]), chk_of (decide_eq_true h0) (chk_of (decide_eq_true hlt) ?_)⟩
  rw [addr16]
  refine ⟨q, e.2.2.length, d, (o2.ex xd).at (by rw [g.place, hq]), ?_⟩
  refine callP.use (Same1_spec (hcp.ex xd) (hcq.ex xd) rfl hl hok) ?_
  rintro _ w3 ⟨rfl, x3⟩
  try dsimp only [dI_i64, dI_u8, dI_u16, dI_u32, dB_bool, dS_slice, dP_ptr, dT_tup, dA_agg, dStr_str, dF_f, dC_c, dM_m, optP_some, ga0, ga1, ga2, ga3, ga4, cond_true, cond_false, chk_true, Bool.not_true, Bool.not_false, Option.isNone_none, Option.isNone_some, List.toList_toArray]
  rw [cond_neg (by rfl), wrap_next hk]
  exact ⟨⟨rfl, rfl, by omega, by omega, xd.trans x3⟩, by ((try dsimp only); omega)⟩

/-! ### The law -/
structure Bt where
  p : Option Addr
  n : Nat
  c : Nat
  xs : List Int
def Bt.val (b : Bt) : Value := .slice b.p b.n b.c
theorem bytes_of {w : World} {m : Nat → Nat → Prop} : ∀ {rows : List (List Value)}, (∀ r ∈ rows, LineIs w m (.sl 1 (.int .u8 .done) .done) r) → ∃ bs : List Bt, rows = bs.map (fun b => [b.val]) ∧ ∀ b ∈ bs, CellsO w b.p (v8 b.xs) ∧ b.xs.length = b.n ∧ Bytes b.xs ∧ b.n ≤ b.c
  | [], _ => ⟨[], rfl, fun x hx => by cases hx⟩
  | r :: rows, h => by
    obtain ⟨a, len, cap, rs, t2, rfl, hs, ht⟩ := h r (by simp)
    have : t2 = [] := ht
    subst this
    obtain ⟨xs, hi, _, _⟩ := hs.ints
    obtain ⟨bs, rfl, hw⟩ := bytes_of (rows := rows) fun x hx => h x (List.mem_cons_of_mem _ hx)
    refine ⟨⟨a, len, cap, xs⟩ :: bs, rfl, fun x hx => ?_⟩
    rcases List.mem_cons.1 hx with rfl | hx
    · refine ⟨hi.cells, hi.size, fun b hb => ?_, hi.room⟩
      exact wf_u8' (hi.wf b hb)
    · exact hw x hx
theorem flat_one (l : List Bt) : (l.map fun b => [b.val]).flatten = l.map Bt.val := by
  induction l with
  | nil => rfl
  | cons a l ih => rw [List.map_cons, List.flatten_cons, ih]; rfl
theorem pin_of {w : World} {m : Nat → Nat → Prop} {b : Nat} {p : Option Addr} {n c : Nat} {rows : List (List Value)} (hl : SlIs w m b (LineIs w m (.sl 1 (.int .u8 .done) .done)) p n c rows) : ∃ pgs, PIn w p n c pgs ∧ (∀ pg ∈ pgs, Bytes pg) ∧ n ≤ 9223372036854775807 := by
  obtain ⟨bs, rfl, hbs⟩ := bytes_of hl.each
  have hn : bs.length = n := by have := hl.size; rwa [List.length_map] at this
  have hcells := hl.cells
  rw [flat_one] at hcells
  have hmax : maxLen ≤ 9223372036854775807 := by decide
  refine ⟨bs.map (·.xs), ⟨by rw [List.length_map]; exact hn, hl.room, bs.map Bt.val, hcells, by rw [List.length_map]; exact hn, fun i pg hi => ?_⟩, fun pg hpg => ?_, Nat.le_trans hl.room (Nat.le_trans hl.fits hmax)⟩
  · rw [List.getElem?_map] at hi ⊢
    cases hg : bs[i]? with
    | none => rw [hg] at hi; cases hi
    | some x =>
      rw [hg] at hi
      cases hi
      obtain ⟨h1, h2, h3, h4⟩ := hbs x (List.mem_of_getElem? hg)
      exact ⟨x.p, x.n, x.c, rfl, h2, h4, h1⟩
  · obtain ⟨x, hx, rfl⟩ := List.mem_map.1 hpg
    exact (hbs x hx).2.2.1
/-- both answer the same of any pages -/
theorem both {pgs : List (List Int)} (hb : ∀ pg ∈ pgs, Bytes pg) : ∃ (R : Sta) (s k q e : Int), ∀ {p : Option Addr} {n c : Nat}, n ≤ 9223372036854775807 → ∀ {w : World}, PIn w p n c pgs →
    leaf_Decode.C p n c w (Ret fun v w' => ∃ ps, v = .tuple #[.agg (stC R ps).toArray, .agg (two s k).toArray, .int .i64 q, .int .i64 e] ∧ StAt w' R ps ∧ Ex w w') ∧
    stopcockref13_Decode.C p n c w (Ret fun v w' => ∃ ps, v = .tuple #[.agg (stC R ps).toArray, .agg (two s k).toArray, .int .i64 q, .int .i64 e] ∧ StAt w' R ps ∧ Ex w w') := by
  by_cases hg : Good pgs
  · obtain ⟨g2, e1, e2, e3, e4⟩ := hg.two
    refine ⟨stO pgs, sO pgs, kO pgs, qO pgs, 0, fun {p n c} hn {w} hp => ⟨?_, ?_⟩⟩
    · refine (Decode_all hp hb hn).mono fun e w' ⟨v, he, hx, h⟩ => ⟨v, he, ?_⟩
      rcases h with ⟨_, ps, hv, hst⟩ | ⟨h, _⟩
      · exact ⟨ps, hv, hst, hx⟩
      · exact absurd hg h
    · refine (refDecode_all hp hb).mono fun e w' ⟨v, he, hx, h⟩ => ⟨v, he, ?_⟩
      rcases h with ⟨_, ps, hv, hst⟩ | ⟨h, _⟩
      · rw [e1, e2, e3, e4] at hv
        rw [e4] at hst
        exact ⟨ps, hv, hst, hx⟩
      · exact absurd g2 h
  · have hg2 : ¬ Good2 pgs := fun h => hg (h.one hb)
    refine ⟨fl [], 0, 0, 0, 11, fun {p n c} hn {w} hp => ⟨?_, ?_⟩⟩
    · refine (Decode_all hp hb hn).mono fun e w' ⟨v, he, hx, h⟩ => ⟨v, he, ?_⟩
      rcases h with ⟨h, _⟩ | ⟨_, hv⟩
      · exact absurd h hg
      · exact ⟨_, hv, (StO.zero w').at, hx⟩
    · refine (refDecode_all hp hb).mono fun e w' ⟨v, he, hx, h⟩ => ⟨v, he, ?_⟩
      rcases h with ⟨h, _⟩ | ⟨_, hv⟩
      · exact absurd h hg2
      · exact ⟨_, hv, (StO.zero w').at, hx⟩
theorem LeafDecodes_row (p : Option Addr) (n c : Nat) (rows : List (List Value)) (w : World) (hl : SlIs w (fun b c => c * b ≤ 140737488351232) 24 (LineIs w (fun b c => c * b ≤ 140737488351232) (.sl 1 (.int .u8 .done) .done)) p n c rows) :
    stopcocklaw13_LeafDecodes.C p n c w (Ret fun v w' => v = .bool true ∧ Ex w w') := by
  obtain ⟨pgs, hp, hb, hn⟩ := pin_of hl
  obtain ⟨R, s, k, q, e, hboth⟩ := both hb
  apply stopcocklaw13_LeafDecodes.ok
  unfold stopcocklaw13_LeafDecodes.main
  refine callP.use (hboth hn hp).1 ?_
  rintro _ w1 ⟨ps, rfl, hst, x1⟩
  try dsimp only [dI_i64, dI_u8, dI_u16, dI_u32, dB_bool, dS_slice, dP_ptr, dT_tup, dA_agg, dStr_str, dF_f, dC_c, dM_m, optP_some, ga0, ga1, ga2, ga3, ga4, cond_true, cond_false, chk_true, Bool.not_true, Bool.not_false, Option.isNone_none, Option.isNone_some, List.toList_toArray]
  rintro b1 w3 rfl rfl b2 w4 rfl rfl
  rw [zst_new, two_new]
  have o1 := Owns.new (w := w1) zst ty_api_State
  have x3 := Ex.alloc w1 (.cells zst.toArray ty_api_State)
  generalize hb1 : w1.heap.size = b1 at o1 ⊢
  generalize w1.alloc (.cells zst.toArray ty_api_State) = w3 at o1 x3 ⊢
  have o2 := Owns.new (w := w3) (two 0 0) ty_api_Plat
  have x4 := Ex.alloc w3 (.cells (two 0 0).toArray ty_api_Plat)
  have hb2 := x3.size
  generalize w3.heap.size = b2 at o2 hb2 ⊢
  generalize w3.alloc (.cells (two 0 0).toArray ty_api_Plat) = w4 at o2 x4 ⊢
  have o1 := o1.ex x4
  have hcl := hst.clen
  refine chk_of (decide_eq_true (by rw [List.size_toArray]; exact hcl)) ?_
  have t1 : ∀ i, i = b1 → Typed w4 ty_api_State i := fun i hi => by rw [hi]; exact (o1.typed rfl).1
  refine o1.put (cs := stC R ps) hcl hst.one fun w5 k5 o5 => ?_
  have o2 := o2.away k5 ty_api_State t1 (by decide)
  refine chk_of (by rfl) ?_
  have t2 : ∀ i, i = b2 → Typed w5 ty_api_Plat i := fun i hi => by rw [hi]; exact (o2.typed rfl).1
  refine o2.put (cs := two s k) (by rfl) two_one fun w6 k6 o6 => ?_
  have o5 := o5.away k6 ty_api_Plat t2 (by decide)
  have x6 : Ex w1 w6 := ((x3.trans x4).then k5 fun i hi => by omega).then k6 fun i hi => by omega
  have hst6 := hst.ex x6
  refine callP.use (hboth hn (hp.ex (x1.trans x6))).2 ?_
  rintro _ w7 ⟨qs, rfl, hqt, x7⟩
  try dsimp only [dI_i64, dI_u8, dI_u16, dI_u32, dB_bool, dS_slice, dP_ptr, dT_tup, dA_agg, dStr_str, dF_f, dC_c, dM_m, optP_some, ga0, ga1, ga2, ga3, ga4, cond_true, cond_false, chk_true, Bool.not_true, Bool.not_false, Option.isNone_none, Option.isNone_some, List.toList_toArray]
  rintro b3 w9 rfl rfl b4 w10 rfl rfl
  rw [zst_new, two_new]
  have o3 := Owns.new (w := w7) zst ty_api_State
  have x9 := Ex.alloc w7 (.cells zst.toArray ty_api_State)
  generalize hb3 : w7.heap.size = b3 at o3 ⊢
  generalize w7.alloc (.cells zst.toArray ty_api_State) = w9 at o3 x9 ⊢
  have o4 := Owns.new (w := w9) (two 0 0) ty_api_Plat
  have x10 := Ex.alloc w9 (.cells (two 0 0).toArray ty_api_Plat)
  have hb4 := x9.size
  generalize w9.heap.size = b4 at o4 hb4 ⊢
  generalize w9.alloc (.cells (two 0 0).toArray ty_api_Plat) = w10 at o4 x10 ⊢
  have o3 := o3.ex x10
  have hql := hqt.clen
  refine chk_of (decide_eq_true (by rw [List.size_toArray]; exact hql)) ?_
  have t3 : ∀ i, i = b3 → Typed w10 ty_api_State i := fun i hi => by rw [hi]; exact (o3.typed rfl).1
  refine o3.put (cs := stC R qs) hql hqt.one fun w11 k11 o11 => ?_
  have o4 := o4.away k11 ty_api_State t3 (by decide)
  refine chk_of (by rfl) ?_
  have t4 : ∀ i, i = b4 → Typed w11 ty_api_Plat i := fun i hi => by rw [hi]; exact (o4.typed rfl).1
  refine o4.put (cs := two s k) (by rfl) two_one fun w12 k12 o12 => ?_
  have o11 := o11.away k12 ty_api_Plat t4 (by decide)
  have x12 : Ex w7 w12 := ((x9.trans x10).then k11 fun i hi => by omega).then k12 fun i hi => by omega
  refine callP.use (awake_spec w12) ?_
  rintro _ w13 ⟨rfl, x13⟩
  try dsimp only [dI_i64, dI_u8, dI_u16, dI_u32, dB_bool, dS_slice, dP_ptr, dT_tup, dA_agg, dStr_str, dF_f, dC_c, dM_m, optP_some, ga0, ga1, ga2, ga3, ga4, cond_true, cond_false, chk_true, Bool.not_true, Bool.not_false, Option.isNone_none, Option.isNone_some, List.toList_toArray]
  rw [cond_pos (by simp), cond_pos (by simp)]
  have y13 := x7.trans (x12.trans x13)
  have z13 := x12.trans x13
  refine ⟨(two s k).toArray, rfl, (o6.ex y13).cells, (two s k).toArray, rfl, (o12.ex x13).cells, true, plat_self _ _ _ _, ?_⟩
  rw [cond_pos rfl]
  refine ⟨(stC R ps).toArray, by rw [List.size_toArray]; exact hcl, (o5.ex y13).cells, (stC R qs).toArray, by rw [List.size_toArray]; exact hql, (o11.ex x13).cells, ?_⟩
  refine callP.use (Same_spec (hst6.ex y13) (hqt.ex z13)) ?_
  rintro _ w15 ⟨rfl, x15⟩
  try dsimp only [dI_i64, dI_u8, dI_u16, dI_u32, dB_bool, dS_slice, dP_ptr, dT_tup, dA_agg, dStr_str, dF_f, dC_c, dM_m, optP_some, ga0, ga1, ga2, ga3, ga4, cond_true, cond_false, chk_true, Bool.not_true, Bool.not_false, Option.isNone_none, Option.isNone_some, List.toList_toArray]
  exact Ret.mk ⟨rfl, x1.trans (x6.trans (y13.trans x15))⟩
end Go.Proofs.Ytokepljpieboiaa.G.En
