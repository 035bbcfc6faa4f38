/-
  States that are the same; leaf.Decode and the document's Decode answer the same.
-/
import Derived.Test.YthgmebhkbbehmaaLeafZC
import Derived.Test.YthgmebhkbbehmaaDecS
namespace Go.Proofs.Ythgmebhkbbehmaa.G.En
open Go.Dec Go.RowKit
set_option linter.unusedVariables false
set_option linter.unusedSimpArgs false

/-! ### Structs of two numbers -/
theorem part_at {w : World} {t off : Nat} {cs : Array Value} {v : Value} (h : partP cx t cs off fun u => u = v) : (part t cs off).run Try.prog w = .ok v w := by
  obtain ⟨u, hu, rfl⟩ := partP_sound (H := w.heap) cxok h
  exact hu w rfl
theorem two_self {t : TypeId} {m0 m1 : String} (h0 : m0 ≠ "_") (h1 : m1 ≠ "_") (hfs : (Try.prog.fieldsOf t).toList = [⟨m0, ty_int, 0, false, "", "", 0⟩, ⟨m1, ty_int, 1, false, "", "", 8⟩]) (ht : Try.prog.underlying t = some (.struct (Try.prog.fieldsOf t))) (hp : Try.prog.stoodInHeld t = false) (a b : Int) (w : World) :
    (Op.equalIn 10000 t (.agg (two a b).toArray) (.agg (two a b).toArray)).run Try.prog w = .ok true w := by
  have p0 : ∀ w : World, (part ty_int (two a b).toArray 0).run Try.prog w = .ok (.int .i64 a) w := fun w => part_at (by rfl)
  have p1 : ∀ w : World, (part ty_int (two a b).toArray 1).run Try.prog w = .ok (.int .i64 b) w := fun w => part_at (by rfl)
  have hi : ∀ (a : Int) (w : World), (Op.equalIn 9999 ty_int (.int .i64 a) (.int .i64 a)).run Try.prog w = .ok true w := fun a w => by
    have := run_equalIn_int (P := Try.prog) w 9998 ty_int .i64 .i64 a a (by kernel_rfl)
    simpa using this
  rw [run_equalIn_struct w 9999 t _ _ ht hp, hfs]
  generalize (9999 : Nat) = dd at hi ⊢
  clear hfs ht hp
  generalize (two a b).toArray = cs at p0 p1 ⊢
  generalize ty_int = ti at p0 p1 hi ⊢
  simp only [Op.eqFields, ne_eq, h0, h1, not_false_eq_true, if_true, Sem.run_bind, p0, p1, hi, Result.andThen_ok, Bool.not_true, Bool.false_eq_true, if_false, Sem.run_pure]
theorem ent_self (a b : Int) (xo yo : Operand) : eqRun Try.prog .neq ty_api_Entry xo yo (.agg (two a b).toArray) (.agg (two a b).toArray) false := by
  intro w
  rw [Sem.run_bind, run_eqGuard_agg w .neq ty_api_Entry xo yo _ _ (by kernel_rfl), Result.andThen_ok, run_neq_struct, two_self (m0 := "Kind") (m1 := "Size") (by decide) (by decide) (by kernel_rfl) (by kernel_rfl) (by kernel_rfl) a b w]
  rfl
theorem plat_self (a b : Int) (xo yo : Operand) : eqRun Try.prog .eql ty_api_Plat xo yo (.agg (two a b).toArray) (.agg (two a b).toArray) true := by
  intro w
  rw [Sem.run_bind, run_eqGuard_agg w .eql ty_api_Plat xo yo _ _ (by kernel_rfl), Result.andThen_ok, run_eql_struct, two_self (m0 := "Segments") (m1 := "Blocks") (by decide) (by decide) (by kernel_rfl) (by kernel_rfl) (by kernel_rfl) a b w]
  rfl

/-! ### The same states -/
theorem Same1_spec {w : World} {p q : Option Addr} {n c d : Nat} {l : List Pl} (hc : CellsO w p (l.map plV)) (hd : CellsO w q (l.map plV)) (hn : l.length = n) (hl : n ≤ 1000) (ho : ∀ q ∈ l, okPl q) : stopcockref01_Same.C p n c q n d w (Ret fun v w' => v = .bool true ∧ Ex w w') := by
  apply stopcockref01_Same.ok
  unfold stopcockref01_Same.main
  rw [cond_neg (by simp)]
  unfold stopcockref01_Same.l1
  refine ⟨fun t0p t0n t0c t1p t1n t1c t5 w' => p = t0p ∧ n = t0n ∧ c = t0c ∧ q = t1p ∧ n = t1n ∧ d = t1c ∧ 0 ≤ t5 ∧ t5 ≤ n ∧ Ex w w', fun t0p t0n t0c t1p t1n t1c t5 w' => (n - t5).toNat, ⟨rfl, rfl, rfl, rfl, rfl, rfl, by omega, by omega, Ex.refl w⟩, ?_⟩
  rintro _ _ _ _ _ _ t5 w' ⟨rfl, rfl, rfl, rfl, rfl, rfl, h0, h1, hx⟩
  unfold stopcockref01_Same.b1
  refine cond_of (fun h => ?_) (fun _ => Ret.mk ⟨rfl, hx⟩)
  have h := of_decide_eq_true h
  obtain ⟨j, rfl⟩ := Int.eq_ofNat_of_zero_le h0
  have hj : j < l.length := by omega
  obtain ⟨a, rfl, ra⟩ := pl_get (hc.ex hx) hj
  obtain ⟨b, rfl, rb⟩ := pl_get (hd.ex hx) hj
  refine chk_of (decide_eq_true h0) (chk_of (decide_eq_true h) ?_)
  try dsimp only [dI_i64, dI_u8, dI_u16, dI_u32, dB_bool, dS_slice, dP_ptr, dT_tup, dA_agg, dStr_str, dF_f, dC_c, dM_m, optP_some, ga0, ga1, ga2, ga3, ga4, cond_true, cond_false, chk_true, Bool.not_true, Bool.not_false, Option.isNone_none, Option.isNone_some, List.toList_toArray]
  rw [Int.toNat_natCast, Nat.mul_one]
  refine ⟨_, _, ra, chk_of (decide_eq_true h0) (chk_of (decide_eq_true h) ?_)⟩
  try dsimp only [dI_i64, dI_u8, dI_u16, dI_u32, dB_bool, dS_slice, dP_ptr, dT_tup, dA_agg, dStr_str, dF_f, dC_c, dM_m, optP_some, ga0, ga1, ga2, ga3, ga4, cond_true, cond_false, chk_true, Bool.not_true, Bool.not_false, Option.isNone_none, Option.isNone_some, List.toList_toArray]
  refine ⟨_, _, rb, fun k => ?_⟩
  have hk := ho _ (List.getElem_mem hj)
  rw [pl_eq hk hk, decide_eq_true rfl, cond_neg (by rfl), w64 (by omega) (by omega)]
  exact ⟨⟨rfl, rfl, rfl, rfl, rfl, rfl, by omega, by omega, hx.trans (Ex.drewN _ _)⟩, by ((try dsimp only); omega)⟩
theorem Same_spec {w : World} {R : Sta} {ps qs : List Value} (h : StAt w R ps) (g : StAt w R qs) : stopcockref07_Same.C (stC R ps).toArray (stC R qs).toArray w (Ret fun v w' => v = .bool true ∧ Ex w w') := by
  apply stopcockref07_Same.ok
  unfold stopcockref07_Same.main
  rintro b1 w1 rfl rfl b2 w2 rfl rfl
  have o1 := Owns.new (w := w) (stC R ps) ty_api_State
  have x1 := Ex.alloc w (.cells (stC R ps).toArray ty_api_State)
  generalize w.heap.size = b1 at o1 ⊢
  generalize w.alloc (.cells (stC R ps).toArray ty_api_State) = w1 at o1 x1 ⊢
  have o2 := Owns.new (w := w1) (stC R qs) ty_api_State
  have x2 := Ex.alloc w1 (.cells (stC R qs).toArray ty_api_State)
  generalize w1.heap.size = b2 at o2 ⊢
  generalize w1.alloc (.cells (stC R qs).toArray ty_api_State) = w2 at o2 x2 ⊢
  have o1 := o1.ex x2
  have hx2 := x1.trans x2
  have h := h.ex hx2
  have g := g.ex hx2
  unfold stopcockref07_Same.l1
  refine ⟨fun t2 t3 t5 w' => b1 = t2 ∧ b2 = t3 ∧ 0 ≤ t5 ∧ t5 ≤ 8 ∧ Ex w2 w', fun t2 t3 t5 w' => (8 - t5).toNat, ⟨rfl, rfl, by omega, by omega, Ex.refl _⟩, ?_⟩
  rintro _ _ t5 w' ⟨rfl, rfl, h0, h8, hx⟩
  unfold stopcockref07_Same.b1
  obtain ⟨k, rfl⟩ := Int.eq_ofNat_of_zero_le h0
  refine cond_of (fun hlt => ?_) (fun hlt => Ret.mk ⟨rfl, hx2.trans hx⟩)
  have hlt := of_decide_eq_true hlt
  have hk : k < 8 := by omega
  obtain ⟨e, he⟩ := h.get hk
  obtain ⟨p, c, hp, hcp⟩ := h.row k e he
  obtain ⟨q, d, hq, hcq⟩ := g.row k e he
  obtain ⟨hok, hl, _, _⟩ := h.ok e (List.mem_of_getElem? he)
  have xd := hx.trans (Ex.drew w')
  have pair1 : CellsAt w'.drew ((⟨b1, 0, none⟩ : Addr).add (k * 2)) (two e.1 e.2.1) := by
    have := CellsO.take (a := some ((⟨b1, 0, none⟩ : Addr).add (k * 2))) (CellsAt.drop (o1.ex xd).cells (k * 2)) 2
    rw [h.pair2 he] at this
    exact this
  have pair2 : CellsAt w'.drew ((⟨b2, 0, none⟩ : Addr).add (k * 2)) (two e.1 e.2.1) := by
    have := CellsO.take (a := some ((⟨b2, 0, none⟩ : Addr).add (k * 2))) (CellsAt.drop (o2.ex xd).cells (k * 2)) 2
    rw [g.pair2 he] at this
    exact this
  refine chk_of (decide_eq_true h0) (chk_of (decide_eq_true hlt) ?_)
  rw [Int.toNat_natCast]
  refine ⟨(two e.1 e.2.1).toArray, rfl, pair1, chk_of (decide_eq_true h0) (chk_of (decide_eq_true hlt) ⟨(two e.1 e.2.1).toArray, rfl, pair2, false, ent_self _ _ _ _, ?_⟩)⟩
  rw [cond_neg rfl]
  refine chk_of (decide_eq_true h0) (chk_of (decide_eq_true hlt) ?_)
  rw [addr16]
  refine ⟨p, e.2.2.length, c, (o1.ex xd).at (by rw [h.place, hp]), chk_of (decide_eq_true h0) (chk_of (decide_eq_true hlt) ?_)⟩
  rw [addr16]
  refine ⟨q, e.2.2.length, d, (o2.ex xd).at (by rw [g.place, hq]), ?_⟩
  refine callP.use (Same1_spec (hcp.ex xd) (hcq.ex xd) rfl hl hok) ?_
  rintro _ w3 ⟨rfl, x3⟩
  try dsimp only [dI_i64, dI_u8, dI_u16, dI_u32, dB_bool, dS_slice, dP_ptr, dT_tup, dA_agg, dStr_str, dF_f, dC_c, dM_m, optP_some, ga0, ga1, ga2, ga3, ga4, cond_true, cond_false, chk_true, Bool.not_true, Bool.not_false, Option.isNone_none, Option.isNone_some, List.toList_toArray]
  rw [cond_neg (by rfl), wrap_next hk]
  exact ⟨⟨rfl, rfl, by omega, by omega, xd.trans x3⟩, by ((try dsimp only); omega)⟩

/-! ### The law -/
structure Bt where
  p : Option Addr
  n : Nat
  c : Nat
  xs : List Int
def Bt.val (b : Bt) : Value := .slice b.p b.n b.c
theorem bytes_of {w : World} {m : Nat → Nat → Prop} : ∀ {rows : List (List Value)}, (∀ r ∈ rows, LineIs w m (.sl 1 (.int .u8 .done) .done) r) → ∃ bs : List Bt, rows = bs.map (fun b => [b.val]) ∧ ∀ b ∈ bs, CellsO w b.p (v8 b.xs) ∧ b.xs.length = b.n ∧ Bytes b.xs ∧ b.n ≤ b.c
  | [], _ => ⟨[], rfl, fun x hx => by cases hx⟩
  | r :: rows, h => by
    obtain ⟨a, len, cap, rs, t2, rfl, hs, ht⟩ := h r (by simp)
    have : t2 = [] := ht
    subst this
    obtain ⟨xs, hi, _, _⟩ := hs.ints
    obtain ⟨bs, rfl, hw⟩ := bytes_of (rows := rows) fun x hx => h x (List.mem_cons_of_mem _ hx)
    refine ⟨⟨a, len, cap, xs⟩ :: bs, rfl, fun x hx => ?_⟩
    rcases List.mem_cons.1 hx with rfl | hx
    · refine ⟨hi.cells, hi.size, fun b hb => ?_, hi.room⟩
      exact wf_u8' (hi.wf b hb)
    · exact hw x hx
theorem flat_one (l : List Bt) : (l.map fun b => [b.val]).flatten = l.map Bt.val := by
  induction l with
  | nil => rfl
  | cons a l ih => rw [List.map_cons, List.flatten_cons, ih]; rfl
theorem pin_of {w : World} {m : Nat → Nat → Prop} {b : Nat} {p : Option Addr} {n c : Nat} {rows : List (List Value)} (hl : SlIs w m b (LineIs w m (.sl 1 (.int .u8 .done) .done)) p n c rows) : ∃ pgs, PIn w p n c pgs ∧ (∀ pg ∈ pgs, Bytes pg) ∧ n ≤ 9223372036854775807 := by
  obtain ⟨bs, rfl, hbs⟩ := bytes_of hl.each
  have hn : bs.length = n := by have := hl.size; rwa [List.length_map] at this
  have hcells := hl.cells
  rw [flat_one] at hcells
  have hmax : maxLen ≤ 9223372036854775807 := by decide
  refine ⟨bs.map (·.xs), ⟨by rw [List.length_map]; exact hn, hl.room, bs.map Bt.val, hcells, by rw [List.length_map]; exact hn, fun i pg hi => ?_⟩, fun pg hpg => ?_, Nat.le_trans hl.room (Nat.le_trans hl.fits hmax)⟩
  · rw [List.getElem?_map] at hi ⊢
    cases hg : bs[i]? with
    | none => rw [hg] at hi; cases hi
    | some x =>
      rw [hg] at hi
      cases hi
      obtain ⟨h1, h2, h3, h4⟩ := hbs x (List.mem_of_getElem? hg)
      exact ⟨x.p, x.n, x.c, rfl, h2, h4, h1⟩
  · obtain ⟨x, hx, rfl⟩ := List.mem_map.1 hpg
    exact (hbs x hx).2.2.1
/-- what is answered of any pages: the state, the geometry, the number, the error -/
abbrev Ans := Sta × Int × Int × Int × Int
open Classical in
noncomputable def ans (pgs : List (List Int)) : Ans := if Good pgs then (stO pgs, sO pgs, kO pgs, qO pgs, 0) else (fl [], 0, 0, 0, 11)
theorem ans_good {pgs : List (List Int)} (h : Good pgs) : ans pgs = (stO pgs, sO pgs, kO pgs, qO pgs, 0) := by unfold ans; rw [if_pos h]
theorem ans_bad {pgs : List (List Int)} (h : ¬ Good pgs) : ans pgs = (fl [], 0, 0, 0, 11) := by unfold ans; rw [if_neg h]
def Said (a : Ans) (w : World) (v : Value) (w' : World) : Prop := ∃ ps, v = .tuple #[.agg (stC a.1 ps).toArray, .agg (two a.2.1 a.2.2.1).toArray, .int .i64 a.2.2.2.1, .int .i64 a.2.2.2.2] ∧ StO w' a.1 ps ∧ Ex w w'
/-- both answer the same of any pages -/
theorem both {pgs : List (List Int)} (hb : ∀ pg ∈ pgs, Bytes pg) {p : Option Addr} {n c : Nat} (hn : n ≤ 9223372036854775807) {w : World} (hp : PIn w p n c pgs) :
    leaf_Decode.C p n c w (Ret (Said (ans pgs) w)) ∧ stopcockref13_Decode.C p n c w (Ret (Said (ans pgs) w)) := by
  by_cases hg : Good pgs
  · obtain ⟨g2, e1, e2, e3, e4⟩ := hg.two
    rw [ans_good hg]
    refine ⟨?_, ?_⟩
    · refine (Decode_all hp hb hn).mono fun e w' ⟨v, he, hx, h⟩ => ⟨v, he, ?_⟩
      rcases h with ⟨_, ps, hv, hst⟩ | ⟨h, _⟩
      · exact ⟨ps, hv, hst, hx⟩
      · exact absurd hg h
    · refine (refDecode_all hp hb).mono fun e w' ⟨v, he, hx, h⟩ => ⟨v, he, ?_⟩
      rcases h with ⟨_, ps, hv, hst⟩ | ⟨h, _⟩
      · rw [e1, e2, e3, e4] at hv
        rw [e4] at hst
        exact ⟨ps, hv, hst, hx⟩
      · exact absurd g2 h
  · have hg2 : ¬ Good2 pgs := fun h => hg (h.one hb)
    rw [ans_bad hg]
    refine ⟨?_, ?_⟩
    · refine (Decode_all hp hb hn).mono fun e w' ⟨v, he, hx, h⟩ => ⟨v, he, ?_⟩
      rcases h with ⟨h, _⟩ | ⟨_, hv⟩
      · exact absurd h hg
      · exact ⟨_, hv, StO.zero w', hx⟩
    · refine (refDecode_all hp hb).mono fun e w' ⟨v, he, hx, h⟩ => ⟨v, he, ?_⟩
      rcases h with ⟨h, _⟩ | ⟨_, hv⟩
      · exact absurd h hg2
      · exact ⟨_, hv, StO.zero w', hx⟩

/-! ### What was laid is read -/
theorem num_be4 {n : Int} (h : 0 ≤ n ∧ n < 4294967296) : Cel.num (Cel.be 4 n) = n := by
  simp [Cel.be, Cel.num]
  omega
theorem hd_fld (H : Hd) (t : List Int) (a : Nat) (l : Nat) (h1 : 1 ≤ l) (h4 : l ≤ 4) (ha : a + l ≤ 17) : fld (hdP H t) a l = Cel.num (((hdT H t).drop a).take l) := by
  have hl := hdT_len H t
  have h60 : ((hdP H t).take 60).length = 60 := by unfold hdP; rw [List.length_take, sealed_length (by omega)]; rfl
  unfold fld
  rw [(Cel.get_in (by omega) (by omega) (n := ((hdP H t).take 60).length) rfl (by omega) (by omega)).1]
  unfold hdP
  rw [Int.toNat_natCast, Int.toNat_natCast, pad_take (by omega) a l (by omega)]
theorem hd_q {H : Hd} (t : List Int) (h : 0 ≤ H.q ∧ H.q < 4294967296) : fld (hdP H t) 4 4 = H.q := by
  have := hd_fld H t 4 4 (by omega) (by omega) (by omega)
  have hq := num_be4 h
  obtain ⟨a, b, c, d, he⟩ := be4_cases H.q
  rw [he] at hq
  have e : ((hdT H t).drop 4).take 4 = [a, b, c, d] := by
    unfold hdT hd3 hd2 hd1
    rw [he]
    simp [slat]
  rw [e, hq] at this
  exact this
theorem hd_s (H : Hd) (t : List Int) : fld (hdP H t) 8 1 = H.s := by
  have := hd_fld H t 8 1 (by omega) (by omega) (by omega)
  obtain ⟨a, b, c, d, he⟩ := be4_cases H.q
  have e : ((hdT H t).drop 8).take 1 = [H.s] := by
    unfold hdT hd3 hd2 hd1
    rw [he]
    simp [slat]
  rw [e] at this
  simpa [Cel.num] using this
theorem hd_k (H : Hd) (t : List Int) : fld (hdP H t) 9 1 = H.k := by
  have := hd_fld H t 9 1 (by omega) (by omega) (by omega)
  obtain ⟨a, b, c, d, he⟩ := be4_cases H.q
  have e : ((hdT H t).drop 9).take 1 = [H.k] := by
    unfold hdT hd3 hd2 hd1
    rw [he]
    simp [slat]
  rw [e] at this
  simpa [Cel.num] using this
theorem laid_good {s k q : Int} {R : Sta} (hq : okSeq q) (hF : FitR s k R) (ho : ∀ e ∈ R, okEnt e) (h8 : R.length = 8) :
    Good (laidAs s k q (pay k R)) ∧ stO (laidAs s k q (pay k R)) = R ∧ sO (laidAs s k q (pay k R)) = s ∧ kO (laidAs s k q (pay k R)) = k ∧ qO (laidAs s k q (pay k R)) = q := by
  obtain ⟨r1, r2⟩ := rd_back hF ho h8
  have hple := pay_le h8 hF.1.2.1 k
  have hb := laid_bytes hq hF ho h8
  generalize ht : pay k R = t at r1 r2 hple hb ⊢
  have hh : hd0 (laidAs s k q t) = hdP (hdOf s k q t) t := rfl
  have htl : (laidAs s k q t).tail = lv q t (List.range (En.cnt t.length)) := rfl
  have es : sO (laidAs s k q t) = s := by unfold sO; rw [hh, hd_s]; rfl
  have ek : kO (laidAs s k q t) = k := by unfold kO; rw [hh, hd_k]; rfl
  have eq : qO (laidAs s k q t) = q := by unfold qO; rw [hh, hd_q t ⟨by have := hq.1; show 0 ≤ q; omega, by have := hq.2; show q < _; omega⟩]; rfl
  have ec : fld (hdP (hdOf s k q t) t) 10 1 = (En.cnt t.length : Int) := hd_cnt _ _
  have et : txt (laidAs s k q t) = t := by unfold txt; rw [htl]; exact lv_text _ _
  have est : stO (laidAs s k q t) = R := by unfold stO; rw [ek, et]; exact r2
  have hlen := hd_len s k q t
  have hc11 : En.cnt t.length ≤ 11 := by unfold En.cnt; omega
  have hop : ∀ pg ∈ laidAs s k q t, opnE pg = 0 := fun pg h => by
    unfold laidAs at h
    rcases List.mem_cons.1 h with rfl | h
    · exact (opn_sealed (by rw [hdT_len]; omega)).1
    · unfold lv at h
      obtain ⟨i, hi, rfl⟩ := List.mem_mapIdx.1 h
      have := chunk_le t (List.range (En.cnt t.length))[i]
      exact (opn_sealed (by rw [lfT_len]; omega)).1
  refine ⟨⟨by rw [hlen]; omega, by rw [hlen]; omega, ?_, by rw [hh, ec, hlen]; omega, fun pg h => ?_, by rw [ek, et]; exact r1, by rw [es, ek, est]; exact hF, by rw [es, ek, eq, est, ht]⟩, est, es, ek, eq⟩
  · rw [hh]
    have hM : hasMagic (hdP (hdOf s k q t) t) := ⟨hop _ (List.mem_cons_self ..), hd_magic _ _⟩
    have e4 : fld (hdP (hdOf s k q t) t) 4 4 = q := eq
    unfold hdrOk
    rw [decide_eq_true hM, e4, ec, decide_eq_true hq.1, decide_eq_true hq.2, decide_eq_true (show (En.cnt t.length : Int) < 12 by omega)]
    rfl
  · unfold leafOk
    rw [decide_eq_true (hop pg (List.mem_of_mem_tail h))]
    rw [htl] at h
    rw [decide_eq_true (lv_said pg h)]
    rfl
end Go.Proofs.Ythgmebhkbbehmaa.G.En
