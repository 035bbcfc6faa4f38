/-
  The document's Encode of any state.
-/
import Derived.Test.YthgmebhkbbehmaaLeafQ
namespace Go.Proofs.Ythgmebhkbbehmaa.G.En
open Go.Dec Go.RowKit
set_option linter.unusedVariables false
set_option linter.unusedSimpArgs false

theorem rputB {w : World} {N : Value → World → Prop} {X : List PanicEntry → World → Prop} {p : Option Addr} {n c : Nat} {xs : List Int} (hc : CellsO w p (v8 xs)) (hn : xs.length = n) (hl : n ≤ 1000000) {s x : Int} {s' : Nat} (hs : s = s') (h1 : 1 ≤ s') (h4 : s' ≤ 4) (hx : 0 ≤ x ∧ x < 256 ^ s') (n' : Nat) (hn' : n + s' = n')
    (K : ∀ p' c' w', Ex w w' → Owns w' w.heap.size ty_uint8 1 p' n' c' (v8 (xs ++ Cel.be s' x)) → N (.slice p' n' c') w') : callP Try.prog 43 #[.slice p n c, .int .i64 s, .int .i64 x] w N X := by
  subst hs hn'
  have hok : Cel.okNum s' x = true := by
    unfold Cel.okNum
    rw [decide_eq_true hx.1, decide_eq_true hx.2]
    rfl
  have hp4 := Cel.pow_le4 h4
  have h : stopcockref13_put.C p n c s' x w (Ret fun v w' => ∃ p' c', v = .slice p' (n + s') c' ∧ Ex w w' ∧ Owns w' w.heap.size ty_uint8 1 p' (n + s') c' (v8 (xs ++ Cel.be s' x))) := by
    apply stopcockref13_put.ok
    unfold stopcockref13_put.main
    refine callP.use (Cel.refPut_spec p n c xs s' x w hc hn (by omega) (by omega)) ?_
    rintro _ w1 ⟨p1, n1, c1, rfl, hn1, o1, x1⟩
    try dsimp only [dI_i64, dI_u8, dI_u16, dI_u32, dB_bool, dS_slice, dP_ptr, dT_tup, dA_agg, dStr_str, dF_f, dC_c, dM_m, optP_some, ga0, ga1, ga2, ga3, ga4, cond_true, cond_false, chk_true, Bool.not_true, Bool.not_false, Option.isNone_none, Option.isNone_some, List.toList_toArray]
    rw [Cel.putB_nat h1 h4, if_pos hok] at o1
    have hlen := own_len o1
    rw [List.length_append, Cel.be_length, hn] at hlen
    subst hlen
    exact Ret.mk ⟨p1, c1, rfl, x1, o1⟩
  refine callP.use h ?_
  rintro _ w1 ⟨p', c', rfl, x1, o1⟩
  exact K _ _ _ x1 o1
theorem rput {w : World} {N : Value → World → Prop} {X : List PanicEntry → World → Prop} {p : Option Addr} {n c : Nat} {xs : List Int} (hc : CellsO w p (v8 xs)) (hn : xs.length = n) (hl : n ≤ 1000000) {s x : Int} {s' : Nat} (hs : s = s') (h1 : 1 ≤ s') (h4 : s' ≤ 4) (hx : 0 ≤ x ∧ x < 256 ^ s') (n' : Nat) (hn' : n + s' = n')
    (K : ∀ p' c' w', Ex w w' → Owns w' 0 ty_uint8 1 p' n' c' (v8 (xs ++ Cel.be s' x)) → N (.slice p' n' c') w') : callP Try.prog 43 #[.slice p n c, .int .i64 s, .int .i64 x] w N X :=
  rputB hc hn hl hs h1 h4 hx n' hn' fun p' c' w' x o => K p' c' w' x (o.lower (Nat.zero_le _))
theorem be1 {n : Int} (h : 0 ≤ n ∧ n < 256) : Cel.be 1 n = [n] := by
  simp [Cel.be]
  omega
theorem stC_kind {w : World} {R : Sta} {ps : List Value} (h : StAt w R ps) {k : Nat} {e : Ent} (he : R[k]? = some e) : (stC R ps)[k * 2]? = some (.int .i64 e.1) ∧ (stC R ps)[k * 2 + 1]? = some (.int .i64 e.2.1) := by
  have h2 := h.pair2 he
  have a := congrArg (fun l => l[0]?) h2
  have b := congrArg (fun l => l[1]?) h2
  simp only [List.getElem?_take, List.getElem?_drop] at a b
  exact ⟨by simpa [two] using a, by simpa [two] using b⟩
theorem addr_kind (b k : Nat) : (⟨b, 0, none⟩ : Addr).add (k * 2) = ⟨b, k * 2, none⟩ := by rw [Addr.add_lit, Nat.zero_add]
theorem refEncode_all {w : World} {R : Sta} {ps : List Value} (h : StAt w R ps) (s m q : Int) : stopcockref13_Encode.C (stC R ps).toArray s m q w (Ret fun v w' => Ex w w' ∧
    ((okSeq q ∧ FitR s m R ∧ ∃ p n c ps', v = .tuple #[.slice p n c, .int .i64 0] ∧ Owns w' 0 ty_sl_uint8 1 p n c ps' ∧ PgAt w' 0 ps' (laidAs s m q (pay m R))) ∨
     (¬(okSeq q ∧ FitR s m R) ∧ ∃ e, e ≠ 0 ∧ v = .tuple #[.slice none 0 0, .int .i64 e]))) := by
  apply stopcockref13_Encode.ok
  unfold stopcockref13_Encode.main
  have hrow := h.row
  rintro b1 w1 rfl rfl b2 w2 rfl rfl
  have o1 := Owns.new (w := w) (stC R ps) ty_api_State
  have x1 := Ex.alloc w (.cells (stC R ps).toArray ty_api_State)
  generalize hb1 : w.heap.size = b1 at o1 ⊢
  generalize w.alloc (.cells (stC R ps).toArray ty_api_State) = w1 at o1 x1 ⊢
  have o2 := Owns.new (w := w1) (two s m) ty_api_Plat
  have x2 := Ex.alloc w1 (.cells (two s m).toArray ty_api_Plat)
  have e2 : w1.alloc (.cells #[.int .i64 s, .int .i64 m] ty_api_Plat) = w1.alloc (.cells (two s m).toArray ty_api_Plat) := rfl
  rw [e2]
  generalize w1.heap.size = b2 at o2 ⊢
  generalize w1.alloc (.cells (two s m).toArray ty_api_Plat) = w2 at o2 x2 ⊢
  have o1 := o1.ex x2
  have hx := x1.trans x2
  have bad : ∀ {w' : World} {e : Int}, Ex w2 w' → ¬(okSeq q ∧ FitR s m R) → e ≠ 0 → Ret (fun v w' => Ex w w' ∧
      ((okSeq q ∧ FitR s m R ∧ ∃ p n c ps', v = .tuple #[.slice p n c, .int .i64 0] ∧ Owns w' 0 ty_sl_uint8 1 p n c ps' ∧ PgAt w' 0 ps' (laidAs s m q (pay m R))) ∨
       (¬(okSeq q ∧ FitR s m R) ∧ ∃ e, e ≠ 0 ∧ v = .tuple #[.slice none 0 0, .int .i64 e]))) (.returned (.tuple #[.slice none 0 0, .int .i64 e])) w' := fun hx' hn he => Ret.mk ⟨hx.trans hx', .inr ⟨hn, _, he, rfl⟩⟩
  refine cond_of (fun hc => ?_) (fun hc => ?_)
  · have hc := of_decide_eq_true hc
    exact bad (Ex.refl _) (fun h => by have := h.1.1; omega) (by decide)
  have hq1 := of_decide_eq_false hc
  refine cond_of (fun hc => ?_) (fun hc => ?_)
  · have hc := of_decide_eq_true hc
    exact bad (Ex.refl _) (fun h => by have := h.1.2; omega) (by decide)
  have hq2 := of_decide_eq_false hc
  have hq : okSeq q := ⟨by omega, by omega⟩
  have h2 := h.ex hx
  refine ⟨(stC R ps).toArray, by rw [List.size_toArray]; exact h.clen, o1.cells, (two s m).toArray, rfl, o2.cells, ?_⟩
  refine callP.use (refFit_all h2 s m) ?_
  rintro _ w3 ⟨⟨e, rfl, he⟩, x3⟩
  try dsimp only [dI_i64, dI_u8, dI_u16, dI_u32, dB_bool, dS_slice, dP_ptr, dT_tup, dA_agg, dStr_str, dF_f, dC_c, dM_m, optP_some, ga0, ga1, ga2, ga3, ga4, cond_true, cond_false, chk_true, Bool.not_true, Bool.not_false, Option.isNone_none, Option.isNone_some, List.toList_toArray]
  refine cond_of (fun hc => ?_) (fun hc => ?_)
  · have hc : ¬ e = 0 := by simpa using hc
    exact bad x3 (fun h => hc (he.2 h.2)) hc
  have hc : e = 0 := by simpa using hc
  have hF := he.1 hc
  have hh := may_iff.1 hF.1.1
  have hp := prod_le hh
  have hple := pay_le h.len hF.1.2.1 m
  have hpge := pay_ge h.len m
  have hpb := pay_bytes (k := m) h.ok
  rintro b3 w5 rfl rfl
  have o5 : Owns (w3.alloc (.cells #[] ty_uint8)) 0 ty_uint8 1 (some ⟨w3.heap.size, 0, none⟩) 0 0 (v8 []) := (Owns.alloc (w := w3) [] ty_uint8 1 0 rfl).lower (Nat.zero_le _)
  have x5 := x3.trans (Ex.alloc w3 (.cells #[] ty_uint8))
  generalize w3.heap.size = b3 at o5 ⊢
  generalize w3.alloc (.cells #[] ty_uint8) = w5 at o5 x5 ⊢
  have o1 := o1.ex x5
  have o2 := o2.ex x5
  have hx := hx.trans x5
  clear x3 x5 bad x1 x2
  unfold stopcockref13_Encode.l1
  refine ⟨fun t2 t3 t4 t9p t9n t9c t10 w' => q = t2 ∧ b1 = t3 ∧ b2 = t4 ∧ 0 ≤ t10 ∧ t10 ≤ 8 ∧ t9n = (pay m (R.take t10.toNat)).length ∧ Owns w' 0 ty_uint8 1 t9p t9n t9c (v8 (pay m (R.take t10.toNat))) ∧ Ex w5 w', fun t2 t3 t4 t9p t9n t9c t10 w' => (8 - t10).toNat, ⟨rfl, rfl, rfl, by omega, by omega, rfl, o5, Ex.refl _⟩, ?_⟩
  rintro _ _ _ t9p t9n t9c t10 w' ⟨rfl, rfl, rfl, h0, h8, hn, own, hx'⟩
  unfold stopcockref13_Encode.b1
  obtain ⟨k, rfl⟩ := Int.eq_ofNat_of_zero_le h0
  rw [Int.toNat_natCast] at hn own
  subst hn
  refine cond_of (fun hlt => ?_) (fun hlt => ?_)
  · have hlt := of_decide_eq_true hlt
    have hk : k < 8 := by omega
    obtain ⟨e, he⟩ := h.get hk
    obtain ⟨p, c, hpp, hcells0⟩ := hrow k e he
    have hcells := hcells0.ex hx
    have hem := List.mem_of_getElem? he
    obtain ⟨hok, hl, hk1, hk2⟩ := h.ok e hem
    have hpl := part_pay h.ok m k
    have hkind := stC_kind h he
    have d := Ex.drew w'
    have hxd := hx'.trans d
    refine chk_of (decide_eq_true h0) (chk_of (decide_eq_true hlt) ?_)
    rw [Int.toNat_natCast, addr_kind]
    refine ⟨e.1, (o1.ex hxd).at hkind.1, chk_of (decide_eq_true h0) (chk_of (decide_eq_true hlt) ?_)⟩
    rw [Addr.add_lit]
    refine ⟨e.2.1, (o1.ex hxd).at hkind.2, ?_⟩
    generalize hP : pay m (R.take k) = P at own hpl ⊢
    refine rput (own.ex d).cells rfl (by omega) (s' := 1) rfl (by omega) (by omega) ⟨hk1.1, by omega⟩ (P.length + 1) rfl fun p1 c1 w6 x6 o6 => ?_
    try dsimp only [dI_i64, dI_u8, dI_u16, dI_u32, dB_bool, dS_slice, dP_ptr, dT_tup, dA_agg, dStr_str, dF_f, dC_c, dM_m, optP_some, ga0, ga1, ga2, ga3, ga4, cond_true, cond_false, chk_true, Bool.not_true, Bool.not_false, Option.isNone_none, Option.isNone_some, List.toList_toArray]
    have hx6 := hxd.trans x6
    refine ⟨(o1.ex hx6).at hkind.2, ?_⟩
    refine rput o6.cells (by rw [List.length_append, Cel.be_length]) (by omega) (s' := 1) rfl (by omega) (by omega) ⟨hk2.1, by omega⟩ (P.length + 2) rfl fun p2 c2 w8 x8 o8 => ?_
    try dsimp only [dI_i64, dI_u8, dI_u16, dI_u32, dB_bool, dS_slice, dP_ptr, dT_tup, dA_agg, dStr_str, dF_f, dC_c, dM_m, optP_some, ga0, ga1, ga2, ga3, ga4, cond_true, cond_false, chk_true, Bool.not_true, Bool.not_false, Option.isNone_none, Option.isNone_some, List.toList_toArray]
    have hx8 := hx6.trans x8
    have ePP : P ++ Cel.be 1 e.1 ++ Cel.be 1 e.2.1 = P ++ [e.1, e.2.1] := by
      rw [be1 hk1, be1 hk2]
      simp
    rw [ePP] at o8
    have hpl2 : ∀ {w'' : World}, Ex w5 w'' → w''.cell? ((⟨b1, 16, none⟩ : Addr).add (k * 1)) = some (.slice p e.2.2.length c) := fun hx => by
      rw [addr16]
      exact (o1.ex hx).at (by rw [h.place, hpp])
    unfold stopcockref13_Encode.l2
    refine ⟨fun t2 t3 t4 t9p t9n t9c t10 t11 w'' => q = t2 ∧ b1 = t3 ∧ b2 = t4 ∧ (k : Int) = t10 ∧ 0 ≤ t11 ∧ t11 ≤ e.2.2.length ∧ t9n = (P ++ [e.1, e.2.1] ++ plsB m (e.2.2.take t11.toNat)).length ∧ Owns w'' 0 ty_uint8 1 t9p t9n t9c (v8 (P ++ [e.1, e.2.1] ++ plsB m (e.2.2.take t11.toNat))) ∧ Ex w5 w'',
      fun t2 t3 t4 t9p t9n t9c t10 t11 w'' => (e.2.2.length - t11).toNat, ⟨rfl, rfl, rfl, rfl, by omega, by omega, by simp [plsB], by simpa [plsB] using o8, hx8⟩, ?_⟩
    clear own o6 x6 o8 hx8 x8 hx6 hxd
    rintro _ _ _ t9p t9n t9c _ t11 w'' ⟨rfl, rfl, rfl, rfl, i0, i1, hn, own, hx6⟩
    unfold stopcockref13_Encode.b2
    obtain ⟨j, rfl⟩ := Int.eq_ofNat_of_zero_le i0
    rw [Int.toNat_natCast] at hn own
    subst hn
    refine chk_of (decide_eq_true h0) (chk_of (decide_eq_true hlt) ?_)
    rw [Int.toNat_natCast]
    refine ⟨p, e.2.2.length, c, hpl2 hx6, ?_⟩
    refine cond_of (fun hc => ?_) (fun hc => ?_)
    · have hc := of_decide_eq_true hc
      have hj : j < e.2.2.length := by omega
      obtain ⟨a, rfl, r⟩ := pl_get (hcells.ex hx6) hj
      have hq' := hok _ (List.getElem_mem hj)
      have hmem := List.getElem_mem hj
      have htk : plsB m (e.2.2.take (j + 1)) = plsB m (e.2.2.take j) ++ numB m e.2.2[j] := by
        unfold plsB
        rw [List.take_succ_eq_append_getElem hj, List.flatMap_append]
        simp
      have hln : (P ++ [e.1, e.2.1] ++ plsB m (e.2.2.take j)).length ≤ 100000 := by
        rw [List.length_append, List.length_append, plsB_len, List.length_take]
        simp only [List.length_cons, List.length_nil]
        omega
      refine chk_of (decide_eq_true h0) (chk_of (decide_eq_true hlt) ⟨_, e.2.2.length, c, hpl2 hx6, ?_⟩)
      refine chk_of (decide_eq_true i0) (chk_of (decide_eq_true hc) ?_)
      try dsimp only [dI_i64, dI_u8, dI_u16, dI_u32, dB_bool, dS_slice, dP_ptr, dT_tup, dA_agg, dStr_str, dF_f, dC_c, dM_m, optP_some, ga0, ga1, ga2, ga3, ga4, cond_true, cond_false, chk_true, Bool.not_true, Bool.not_false, Option.isNone_none, Option.isNone_some, List.toList_toArray]
      rw [Int.toNat_natCast, Nat.mul_one]
      refine ⟨_, _, r, ?_⟩
      rw [empty_eq hq']
      have hnext : IntKind.i64.wrap ((j : Int) + 1) = ((j + 1 : Nat) : Int) := by rw [w64 (by omega) (by omega)]; rfl
      have htn : ((j + 1 : Nat) : Int).toNat = j + 1 := rfl
      have hlen' : (P ++ [e.1, e.2.1] ++ plsB m (e.2.2.take j)).length + 2 = (P ++ [e.1, e.2.1] ++ plsB m (e.2.2.take (j + 1))).length := by
        rw [htk, ← List.append_assoc]
        generalize P ++ [e.1, e.2.1] ++ plsB m (e.2.2.take j) = Z
        rw [List.length_append]
        unfold numB
        rw [Cel.be_length]
      have hcat : ∀ {n : Int}, numP m e.2.2[j] = n → P ++ [e.1, e.2.1] ++ plsB m (e.2.2.take j) ++ Cel.be 2 n = P ++ [e.1, e.2.1] ++ plsB m (e.2.2.take (j + 1)) := fun hn => by
        rw [htk, ← List.append_assoc]
        unfold numB
        rw [hn]
      cases hqe : e.2.2[j] with
      | none =>
        rw [cond_neg (by rfl)]
        refine rput own.cells rfl (by omega) (s' := 2) rfl (by omega) (by omega) ⟨by omega, by omega⟩ _ hlen' fun p' c' w14 x14 o14 => ?_
        try dsimp only [dI_i64, dI_u8, dI_u16, dI_u32, dB_bool, dS_slice, dP_ptr, dT_tup, dA_agg, dStr_str, dF_f, dC_c, dM_m, optP_some, ga0, ga1, ga2, ga3, ga4, cond_true, cond_false, chk_true, Bool.not_true, Bool.not_false, Option.isNone_none, Option.isNone_some, List.toList_toArray]
        rw [hnext]
        rw [hcat (by rw [hqe]; rfl)] at o14
        exact ⟨⟨rfl, rfl, rfl, rfl, by omega, by omega, by rw [htn], by rw [htn]; exact o14, hx6.trans x14⟩, by ((try dsimp only); omega)⟩
      | some x =>
        rw [hqe] at hq' hmem
        rw [cond_pos (by rfl)]
        have hin := in_fits hF hem hmem
        have d2 := Ex.drew w''
        have hx6d := hx6.trans d2
        refine chk_of (decide_eq_true h0) (chk_of (decide_eq_true hlt) ⟨_, e.2.2.length, c, hpl2 hx6d, ?_⟩)
        refine chk_of (decide_eq_true i0) (chk_of (decide_eq_true hc) ?_)
        try dsimp only [dI_i64, dI_u8, dI_u16, dI_u32, dB_bool, dS_slice, dP_ptr, dT_tup, dA_agg, dStr_str, dF_f, dC_c, dM_m, optP_some, ga0, ga1, ga2, ga3, ga4, cond_true, cond_false, chk_true, Bool.not_true, Bool.not_false, Option.isNone_none, Option.isNone_some, List.toList_toArray]
        have r2 : w''.drew.cell? (a.add j) = some (.complex .f64 (plR (some x)) (plM (some x))) := by
          rw [hqe] at r
          exact d2.cell r id
        refine ⟨_, _, r2, m, (o2.ex hx6d).at (by rfl), ?_⟩
        refine callP.use (refFlat_spec (some x) hq' m (by omega) w''.drew) ?_
        rintro _ w10 ⟨rfl, e10⟩
        subst e10
        rw [flt_some, if_pos hin.1]
        have e : (Cel.v64 [(x.1 : Int) * m + x.2, 0]).toArray = #[.int .i64 ((x.1 : Int) * m + x.2), .int .i64 0] := rfl
        rw [e]
        try dsimp only [dI_i64, dI_u8, dI_u16, dI_u32, dB_bool, dS_slice, dP_ptr, dT_tup, dA_agg, dStr_str, dF_f, dC_c, dM_m, optP_some, ga0, ga1, ga2, ga3, ga4, cond_true, cond_false, chk_true, Bool.not_true, Bool.not_false, Option.isNone_none, Option.isNone_some, List.toList_toArray]
        have hfl := flat_le (k := m) hq'.1 (by omega)
        have hx2lt := hq'.2
        rw [w64 (x := (x.1 : Int) * m + x.2 + 1) (by omega) (by omega)]
        refine rput (own.ex d2).cells rfl (by omega) (s' := 2) rfl (by omega) (by omega) ⟨by omega, by omega⟩ _ hlen' fun p' c' w12 x12 o12 => ?_
        try dsimp only [dI_i64, dI_u8, dI_u16, dI_u32, dB_bool, dS_slice, dP_ptr, dT_tup, dA_agg, dStr_str, dF_f, dC_c, dM_m, optP_some, ga0, ga1, ga2, ga3, ga4, cond_true, cond_false, chk_true, Bool.not_true, Bool.not_false, Option.isNone_none, Option.isNone_some, List.toList_toArray]
        rw [hnext]
        rw [hcat (by rw [hqe]; rfl)] at o12
        exact ⟨⟨rfl, rfl, rfl, rfl, by omega, by omega, by rw [htn], by rw [htn]; exact o12, hx6d.trans x12⟩, by ((try dsimp only); omega)⟩
    · have hc := of_decide_eq_false hc
      have hj : j = e.2.2.length := by omega
      rw [wrap_next hk]
      have htn : ((k + 1 : Nat) : Int).toNat = k + 1 := rfl
      have hfull : P ++ [e.1, e.2.1] ++ plsB m (e.2.2.take j) = pay m (R.take (k + 1)) := by
        rw [take_pay he, hP, hj, List.take_length]
        unfold payE
        rw [List.append_assoc]
      rw [hfull] at own ⊢
      exact ⟨⟨rfl, rfl, rfl, by omega, by omega, by rw [htn], by rw [htn]; exact own, hx6⟩, by ((try dsimp only); omega)⟩
  · have hlt := of_decide_eq_false hlt
    obtain rfl : k = 8 := by omega
    rw [List.take_of_length_le (by rw [h.len]; omega)] at own ⊢
    generalize pay m R = t at own hple hpge hpb ⊢
    have hc11 : cnt t.length ≤ 11 := by unfold cnt; omega
    have hok : (hdOf s m q t).Ok := ⟨⟨by have := hq.1; show 0 ≤ q; omega, by have := hq.2; show q < _; omega⟩, ⟨by show 0 ≤ s; omega, by show s < _; omega⟩, ⟨by show 0 ≤ m; omega, by show m < _; omega⟩, by show cnt t.length < 256; omega, by show t.length < _; omega⟩
    unfold stopcockref13_Encode.k1
    have hxd := hx'.trans (Ex.drew w')
    refine ⟨s, (o2.ex hxd).at (by rfl), m, (o2.ex hxd).at (by rfl), ?_⟩
    have hown : ∀ a, t9p = some a → a.block < w'.drew.heap.size := fun a ha => Nat.lt_of_lt_of_le (own.ge ha).2 (Ex.drew w').size
    rintro b4 w16 rfl rfl
    have o4 : Owns (w'.drew.alloc (.cells #[] ty_uint8)) w'.drew.heap.size ty_uint8 1 (some ⟨w'.drew.heap.size, 0, none⟩) 0 0 (v8 []) := Owns.alloc (w := w'.drew) [] ty_uint8 1 0 rfl
    have hB4 := hxd.size
    have x16 := hxd.trans (Ex.alloc w'.drew (.cells #[] ty_uint8))
    have hB16 := (Ex.alloc w'.drew (.cells #[] ty_uint8)).size
    have own := (own.ex (Ex.drew w')).ex (Ex.alloc w'.drew (.cells #[] ty_uint8))
    generalize w'.drew.heap.size = b4 at o4 hB4 hown hB16 ⊢
    generalize w'.drew.alloc (.cells #[] ty_uint8) = w16 at o4 x16 own hB16 ⊢
    refine ⟨(o2.ex x16).at (by rfl), (o2.ex x16).at (by rfl), ?_⟩
    refine appP_own (B := b4) o4 hB16 (v8 slat) (by rfl) (by rfl) (v8_one _) rfl (by decide) (by decide) ?_
    intro p8 c8 w17 o17 k17
    have x17 : Ex w5 w17 := x16.then k17 fun i ⟨y, e, hi⟩ => by cases e; dsimp only at hi; omega
    have own := own.kp k17 fun a ha ⟨y, e, hi⟩ => by cases e; have := hown a ha; dsimp only at hi; omega
    have own : Owns w17 0 ty_uint8 1 t9p t.length t9c (v8 t) := own
    clear hown hB4 hB16 k17 o4 x16
    have o17 : CellsO w17 p8 (v8 slat) := o17.cells
    refine ⟨(o2.ex x17).at (by rfl), (o2.ex x17).at (by rfl), ?_⟩
    refine rput o17 (by rfl) (by decide) (s' := 4) rfl (by omega) (by omega) ⟨by have := hq.1; omega, by have := hq.2; omega⟩ 8 (by rfl) fun p9 c9 w18 x18 o18 => ?_
    try dsimp only [dI_i64, dI_u8, dI_u16, dI_u32, dB_bool, dS_slice, dP_ptr, dT_tup, dA_agg, dStr_str, dF_f, dC_c, dM_m, optP_some, ga0, ga1, ga2, ga3, ga4, cond_true, cond_false, chk_true, Bool.not_true, Bool.not_false, Option.isNone_none, Option.isNone_some, List.toList_toArray]
    have x18 := x17.trans x18
    refine ⟨(o2.ex x18).at (by rfl), (o2.ex x18).at (by rfl), ?_⟩
    refine rput o18.cells (by rw [List.length_append, Cel.be_length]; rfl) (by decide) (s' := 1) rfl (by omega) (by omega) ⟨by omega, by omega⟩ 9 (by rfl) fun p10 c10 w20 y20 o20 => ?_
    try dsimp only [dI_i64, dI_u8, dI_u16, dI_u32, dB_bool, dS_slice, dP_ptr, dT_tup, dA_agg, dStr_str, dF_f, dC_c, dM_m, optP_some, ga0, ga1, ga2, ga3, ga4, cond_true, cond_false, chk_true, Bool.not_true, Bool.not_false, Option.isNone_none, Option.isNone_some, List.toList_toArray]
    have x20 := x18.trans y20
    refine ⟨(o2.ex x20).at (by rfl), ?_⟩
    refine rput o20.cells (by rw [List.length_append, List.length_append, Cel.be_length, Cel.be_length]; rfl) (by decide) (s' := 1) rfl (by omega) (by omega) ⟨by omega, by omega⟩ 10 (by rfl) fun p11 c11 w22 y22 o22 => ?_
    try dsimp only [dI_i64, dI_u8, dI_u16, dI_u32, dB_bool, dS_slice, dP_ptr, dT_tup, dA_agg, dStr_str, dF_f, dC_c, dM_m, optP_some, ga0, ga1, ga2, ga3, ga4, cond_true, cond_false, chk_true, Bool.not_true, Bool.not_false, Option.isNone_none, Option.isNone_some, List.toList_toArray]
    have x22 := x20.trans y22
    have ecnt : IntKind.i64.wrap (Int.tdiv (IntKind.i64.wrap (((t.length : Nat) : Int) + 51)) 52) = (cnt t.length : Int) := by
      rw [w64 (x := ((t.length : Nat) : Int) + 51) (by omega) (by omega)]
      have e1 : Int.tdiv (((t.length : Nat) : Int) + 51) 52 = (cnt t.length : Int) := rfl
      rw [e1, w64 (by omega) (by omega)]
    rw [ecnt]
    refine rput o22.cells (by rw [List.length_append, List.length_append, List.length_append, Cel.be_length, Cel.be_length, Cel.be_length]; rfl) (by decide) (s' := 1) rfl (by omega) (by omega) ⟨by omega, by omega⟩ 11 (by rfl) fun p12 c12 w24 y24 o24 => ?_
    try dsimp only [dI_i64, dI_u8, dI_u16, dI_u32, dB_bool, dS_slice, dP_ptr, dT_tup, dA_agg, dStr_str, dF_f, dC_c, dM_m, optP_some, ga0, ga1, ga2, ga3, ga4, cond_true, cond_false, chk_true, Bool.not_true, Bool.not_false, Option.isNone_none, Option.isNone_some, List.toList_toArray]
    have x24 := x22.trans y24
    have ehd2 : slat ++ Cel.be 4 q ++ Cel.be 1 s ++ Cel.be 1 m ++ Cel.be 1 (cnt t.length : Int) = hd2 (hdOf s m q t) := by
      rw [be1 ⟨by omega, by omega⟩, be1 ⟨by omega, by omega⟩, be1 ⟨by omega, by omega⟩]
      simp [hd2, hd1, hdOf]
    rw [ehd2] at o24
    have hl2 : (hd2 (hdOf s m q t)).length = 11 := by unfold hd2 hd1; rw [List.length_append, List.length_append, Cel.be_length]; rfl
    refine rput o24.cells hl2 (by decide) (s' := 2) rfl (by omega) (by omega) ⟨by omega, by omega⟩ 13 (by rfl) fun p13 c13 w26 y26 o26 => ?_
    try dsimp only [dI_i64, dI_u8, dI_u16, dI_u32, dB_bool, dS_slice, dP_ptr, dT_tup, dA_agg, dStr_str, dF_f, dC_c, dM_m, optP_some, ga0, ga1, ga2, ga3, ga4, cond_true, cond_false, chk_true, Bool.not_true, Bool.not_false, Option.isNone_none, Option.isNone_some, List.toList_toArray]
    have x26 := x24.trans y26
    have y1726 := (((((‹Ex w17 w18›.trans y20).trans y22).trans y24).trans y26))
    have ownt := own.ex y1726
    refine callP.use (refSum_spec t9p t.length t9c t w26 ownt.cells rfl (by omega) hpb) ?_
    rintro _ w28 ⟨rfl, y28⟩
    try dsimp only [dI_i64, dI_u8, dI_u16, dI_u32, dB_bool, dS_slice, dP_ptr, dT_tup, dA_agg, dStr_str, dF_f, dC_c, dM_m, optP_some, ga0, ga1, ga2, ga3, ga4, cond_true, cond_false, chk_true, Bool.not_true, Bool.not_false, Option.isNone_none, Option.isNone_some, List.toList_toArray]
    have hcr := u_lt (more 0#32 t)
    rw [w64 (x := u (more 0#32 t)) (by omega) (by omega)]
    refine rput (o26.ex y28).cells (by rw [List.length_append, hl2, Cel.be_length]) (by decide) (s' := 4) rfl (by omega) (by omega) ⟨hcr.1, by omega⟩ 17 (by rfl) fun p14 c14 w30 y30 o30 => ?_
    try dsimp only [dI_i64, dI_u8, dI_u16, dI_u32, dB_bool, dS_slice, dP_ptr, dT_tup, dA_agg, dStr_str, dF_f, dC_c, dM_m, optP_some, ga0, ga1, ga2, ga3, ga4, cond_true, cond_false, chk_true, Bool.not_true, Bool.not_false, Option.isNone_none, Option.isNone_some, List.toList_toArray]
    have o30 : Owns w30 0 ty_uint8 1 p14 17 c14 (v8 (hdT (hdOf s m q t) t)) := o30
    refine callP.use (refClose_spec p14 17 c14 (hdT (hdOf s m q t) t) w30 o30.cells (hdT_len _ _) (hdT_bytes hok t)) ?_
    rintro _ w32 ⟨p15, n14, c15, rfl, hn14, o32, y32⟩
    try dsimp only [dI_i64, dI_u8, dI_u16, dI_u32, dB_bool, dS_slice, dP_ptr, dT_tup, dA_agg, dStr_str, dF_f, dC_c, dM_m, optP_some, ga0, ga1, ga2, ga3, ga4, cond_true, cond_false, chk_true, Bool.not_true, Bool.not_false, Option.isNone_none, Option.isNone_some, List.toList_toArray]
    have hcl : cloB (hdT (hdOf s m q t) t) = hdP (hdOf s m q t) t := cloB_le (by rw [hdT_len]; omega)
    rw [hcl] at o32
    have hn64 : n14 = 64 := by have := own_len o32; unfold hdP at this; rw [sealed_length (by rw [hdT_len]; omega)] at this; exact this.symm
    subst hn64
    have x32 := ((x26.trans y28).trans y30).trans y32
    have ownt := ownt.ex ((y28.trans y30).trans y32)
    have o32 := o32.lower (Nat.zero_le _)
    rintro b5 w34 rfl rfl
    have o5 := Owns.new (w := w32) [.slice p15 64 c15] ty_sl_uint8
    have y34 := Ex.alloc w32 (.cells [Value.slice p15 64 c15].toArray ty_sl_uint8)
    have hb5 := x32.size
    generalize w32.heap.size = b5 at o5 hb5 ⊢
    generalize w32.alloc (.cells #[.slice p15 64 c15] ty_sl_uint8) = w34 at o5 y34 ⊢
    have x34 := hx.trans (x32.trans y34)
    have ownt := ownt.ex y34
    have pg0 : PgAt w34 0 [.slice p15 64 c15] [hdP (hdOf s m q t) t] := (PgAt.nil _ _).snoc (o32.ex y34)
    have hwb : w.heap.size ≤ b5 := Nat.le_trans hx.size hb5
    clear o30 o26 o24 o22 o20 o18 o17 own o32 ehd2 hl2 ecnt
    unfold stopcockref13_Encode.l3
    refine ⟨fun t2 t9p' t9n' t9c' t13 t17p t17n t17c t18 w'' => q = t2 ∧ t9p = t9p' ∧ t.length = t9n' ∧ t9c = t9c' ∧ (cnt t.length : Int) = t13 ∧ 0 ≤ t18 ∧ t18 ≤ cnt t.length ∧ t17n = t18.toNat + 1 ∧ Owns w'' 0 ty_uint8 1 t9p t.length t9c (v8 t) ∧ Ex w w'' ∧ ∃ rs, Owns w'' b5 ty_sl_uint8 1 t17p t17n t17c rs ∧ PgAt w'' 0 rs (hdP (hdOf s m q t) t :: lv q t (List.range t18.toNat)),
      fun t2 t9p' t9n' t9c' t13 t17p t17n t17c t18 w'' => (cnt t.length - t18).toNat, ⟨rfl, rfl, rfl, rfl, rfl, by omega, by omega, rfl, ownt, x34, _, o5, pg0⟩, ?_⟩
    clear pg0 o5 ownt
    rintro _ _ _ _ _ t17p t17n t17c t18 w'' ⟨rfl, rfl, rfl, rfl, rfl, i0, i1, hn, ownt, hx'', rs, orow, hpg⟩
    unfold stopcockref13_Encode.b3
    obtain ⟨j, rfl⟩ := Int.eq_ofNat_of_zero_le i0
    rw [Int.toNat_natCast] at hn hpg
    subst hn
    refine cond_of (fun hc => ?_) (fun hc => ?_)
    · have hc := of_decide_eq_true hc
      have hj : j < cnt t.length := by omega
      have hcp := clen_pos hj
      have hcl := chunk_len t j
      have hlow : b5 ≤ w''.heap.size := by
        obtain ⟨_, _, h⟩ := orow
        rcases h with ⟨rfl, h0⟩ | ⟨b, cur, fr, _, hb, hbl, _⟩
        · omega
        · have := (Array.getElem?_eq_some_iff.1 hbl).1
          omega
      have e52 : IntKind.i64.wrap (52 * (j : Int)) = ((52 * j : Nat) : Int) := by rw [w64 (by omega) (by omega)]; rfl
      rw [e52, Int.toNat_natCast]
      refine chk_of (decide_eq_true (by omega)) (chk_of (decide_eq_true (by omega)) ?_)
      have hcap := ownt.2.1
      have fin : ∀ (P : Option Addr) (n c : Nat), n = clen t.length j → CellsO w'' P (v8 (chunk t j)) → stopcockref13_Encode.k2 q t9p t.length t9c (cnt t.length : Int) t17p (j + 1) t17c (j : Int) P n c w'' (Ret fun v w' => Ex w w' ∧
    ((okSeq q ∧ FitR s m R ∧ ∃ p n c ps', v = .tuple #[.slice p n c, .int .i64 0] ∧ Owns w' 0 ty_sl_uint8 1 p n c ps' ∧ PgAt w' 0 ps' (laidAs s m q t)) ∨
     (¬(okSeq q ∧ FitR s m R) ∧ ∃ e, e ≠ 0 ∧ v = .tuple #[.slice none 0 0, .int .i64 e]))) fun t2 t9p' t9n' t9c' t13 t17p t17n t17c t18 w'' => (q = t2 ∧ t9p = t9p' ∧ t.length = t9n' ∧ t9c = t9c' ∧ (cnt t.length : Int) = t13 ∧ 0 ≤ t18 ∧ t18 ≤ cnt t.length ∧ t17n = t18.toNat + 1 ∧ Owns w'' 0 ty_uint8 1 t9p t.length t9c (v8 t) ∧ Ex w w'' ∧ ∃ rs, Owns w'' b5 ty_sl_uint8 1 t17p t17n t17c rs ∧ PgAt w'' 0 rs (hdP (hdOf s m q t) t :: lv q t (List.range t18.toNat))) ∧ (cnt t.length - t18).toNat < (cnt t.length - (j : Int)).toNat := by
        intro P n c hn hP
        subst hn
        unfold stopcockref13_Encode.k2
        refine rput (p := none) (n := 0) (c := 0) (xs := []) (by exact rfl) rfl (by omega) (s' := 4) rfl (by omega) (by omega) ⟨by have := hq.1; omega, by have := hq.2; omega⟩ 4 (by rfl) fun p1 c1 w1 x1 o1 => ?_
        try dsimp only [dI_i64, dI_u8, dI_u16, dI_u32, dB_bool, dS_slice, dP_ptr, dT_tup, dA_agg, dStr_str, dF_f, dC_c, dM_m, optP_some, ga0, ga1, ga2, ga3, ga4, cond_true, cond_false, chk_true, Bool.not_true, Bool.not_false, Option.isNone_none, Option.isNone_some, List.toList_toArray]
        refine rput o1.cells (by rw [List.nil_append, Cel.be_length]) (by omega) (s' := 1) rfl (by omega) (by omega) ⟨by omega, by omega⟩ 5 (by rfl) fun p2 c2 w2 x2 o2 => ?_
        try dsimp only [dI_i64, dI_u8, dI_u16, dI_u32, dB_bool, dS_slice, dP_ptr, dT_tup, dA_agg, dStr_str, dF_f, dC_c, dM_m, optP_some, ga0, ga1, ga2, ga3, ga4, cond_true, cond_false, chk_true, Bool.not_true, Bool.not_false, Option.isNone_none, Option.isNone_some, List.toList_toArray]
        refine rputB o2.cells (by rw [List.nil_append, List.length_append, Cel.be_length, Cel.be_length]) (by omega) (s' := 1) rfl (by omega) (by omega) ⟨by omega, by omega⟩ 6 (by rfl) fun p3 c3 w3 x3 o3 => ?_
        try dsimp only [dI_i64, dI_u8, dI_u16, dI_u32, dB_bool, dS_slice, dP_ptr, dT_tup, dA_agg, dStr_str, dF_f, dC_c, dM_m, optP_some, ga0, ga1, ga2, ga3, ga4, cond_true, cond_false, chk_true, Bool.not_true, Bool.not_false, Option.isNone_none, Option.isNone_some, List.toList_toArray]
        have x13 := x1.trans (x2.trans x3)
        have hs12 := (x1.trans x2).size
        refine appP_own o3 x3.size (v8 (chunk t j)) (CellsO.ex x13 hP) (by rw [v8_len, hcl, Nat.mul_one]) (v8_one _) rfl (by omega) (by omega) ?_
        intro p4 c4 w4 o4 k4
        have x4 : Ex w'' w4 := x13.then k4 fun i ⟨y, e, hi⟩ => by have := (o3.ge e).1; omega
        have et : [] ++ Cel.be 4 q ++ Cel.be 1 (j : Int) ++ Cel.be 1 ((clen t.length j : Nat) : Int) ++ chunk t j = lfT q j (chunk t j) := by
          rw [be1 ⟨by omega, by omega⟩, be1 ⟨by omega, by omega⟩]
          unfold lfT
          rw [hcl]
          simp
        rw [v8_app, et] at o4
        have hbt : Bytes (lfT q j (chunk t j)) := by
          refine Bytes.append (Bytes.append (Cel.be_byte 4 q) fun x hx => ?_) ((hpb.drop _).take _)
          simp only [List.mem_cons, List.not_mem_nil, or_false] at hx
          omega
        have hlt : (lfT q j (chunk t j)).length = 6 + clen t.length j := by rw [lfT_len, hcl]
        refine callP.use (refClose_spec p4 (6 + clen t.length j) c4 (lfT q j (chunk t j)) w4 o4.cells hlt hbt) ?_
        rintro _ w5 ⟨p5, n5, c5, rfl, hn5, o5, x5⟩
        try dsimp only [dI_i64, dI_u8, dI_u16, dI_u32, dB_bool, dS_slice, dP_ptr, dT_tup, dA_agg, dStr_str, dF_f, dC_c, dM_m, optP_some, ga0, ga1, ga2, ga3, ga4, cond_true, cond_false, chk_true, Bool.not_true, Bool.not_false, Option.isNone_none, Option.isNone_some, List.toList_toArray]
        have hcl5 : cloB (lfT q j (chunk t j)) = lfP q j (chunk t j) := cloB_le (by omega)
        rw [hcl5] at o5
        have hn64 : n5 = 64 := by have := own_len o5; unfold lfP at this; rw [sealed_length (by omega)] at this; exact this.symm
        subst hn64
        rintro b6 w6 rfl rfl
        have o6 := Owns.new (w := w5) [.slice p5 64 c5] ty_sl_uint8
        have x6 := Ex.alloc w5 (.cells [Value.slice p5 64 c5].toArray ty_sl_uint8)
        generalize w5.alloc (.cells #[.slice p5 64 c5] ty_sl_uint8) = w6 at o6 x6 ⊢
        have x46 := x4.trans (x5.trans x6)
        have hl := orow.ex x46
        refine appP_own (B := b5) hl (Nat.le_trans hlow x46.size) [.slice p5 64 c5] o6.cells rfl slice_one rfl (by omega) (by omega) ?_
        intro p7 c7 w7 o7 k7
        have tl : ∀ i, (∃ y, t17p = some y ∧ y.block = i) → Typed w6 ty_sl_uint8 i := fun i ⟨y, e, hi⟩ => hi ▸ (hl.typed e).1
        have hnext : IntKind.i64.wrap ((j : Int) + 1) = ((j + 1 : Nat) : Int) := by rw [w64 (by omega) (by omega)]; rfl
        have htn : ((j + 1 : Nat) : Int).toNat = j + 1 := rfl
        rw [hnext]
        refine ⟨⟨rfl, rfl, rfl, rfl, rfl, by omega, by omega, by rw [htn], (ownt.ex x46).away k7 ty_sl_uint8 tl (by decide), (hx''.trans x46).then k7 fun i ⟨y, e, hi⟩ => by have := (hl.ge e).1; omega, rs ++ [.slice p5 64 c5], o7, ?_⟩, by ((try dsimp only); omega)⟩
        rw [htn, List.range_succ, lv_snoc, List.length_range, ← List.cons_append]
        exact ((hpg.ex x46).away k7 ty_sl_uint8 tl (by decide)).snoc (((o5.lower (Nat.zero_le _)).ex x6).away k7 ty_sl_uint8 tl (by decide))
      have hch := chunk_cells ownt.cells hj
      refine cond_of (fun h52 => ?_) (fun h52 => ?_)
      · have h52 := of_decide_eq_true h52
        have hcl52 : clen t.length j = 52 := by unfold clen; omega
        refine chk_of (decide_eq_true (by omega)) ?_
        refine fin _ _ _ hcl52.symm ?_
        rw [slA_zero]
        have := ownt.cells.slice t9c (52 * j) (clen t.length j) (by rw [v8_len]; exact hcap)
        unfold chunk v8
        rw [List.map_take, List.map_drop]
        exact this
      · have h52 := of_decide_eq_false h52
        have hcl52 : t.length - 52 * j = clen t.length j := by unfold clen; omega
        refine fin _ _ _ hcl52 ?_
        have := ownt.cells.slice t9c (52 * j) (clen t.length j) (by rw [v8_len]; exact hcap)
        unfold chunk v8
        rw [List.map_take, List.map_drop]
        exact this
    · have hc := of_decide_eq_false hc
      have hj : j = cnt t.length := by omega
      subst hj
      exact Ret.mk ⟨hx'', .inl ⟨hq, hF, t17p, _, t17c, rs, rfl, orow.lower (Nat.zero_le _), hpg⟩⟩
end Go.Proofs.Ythgmebhkbbehmaa.G.En
