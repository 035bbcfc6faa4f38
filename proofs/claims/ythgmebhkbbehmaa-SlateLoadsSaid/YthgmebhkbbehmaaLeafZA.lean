/-
  The document's Decode of any pages, the walk: the state.
-/
import Derived.Test.YthgmebhkbbehmaaLeafY
namespace Go.Proofs.Ythgmebhkbbehmaa.G.En
open Go.Dec Go.RowKit
set_option linter.unusedVariables false
set_option linter.unusedSimpArgs false

theorem k3_all {pgs : List (List Int)} {w : World} {a : Addr} {n c b1 b2 b3 b11 : Nat} {W : World} {p7 : Option Addr} {c7 : Nat} (hb : ∀ pg ∈ pgs, Bytes pg) (sd0 : Side pgs w a n c b1 b2 b3 b11 W) (h2 : 2 ≤ n) (h12 : n ≤ 12) (hop : ∀ pg ∈ pgs, opnE pg = 0)
    (o7 : Owns W 0 ty_uint8 1 p7 (txt2 pgs).length c7 (v8 (txt2 pgs))) (hT : (txt2 pgs).length ≤ 900) (hbT : Bytes (txt2 pgs)) (hk : 0 ≤ k2 pgs ∧ k2 pgs < 256) :
    stopcockref13_Decode.k3 (some a) n c b1 b2 b3 p7 (txt2 pgs).length c7 b11 W (Ret (DecRes2 pgs w)) := by
  have fin : ∀ {b12 : Nat} {W : World} {ps : List Value}, Side pgs w a n c b1 b2 b3 b11 W → Owns W 0 ty_api_State 24 (some ⟨b12, 0, none⟩) 1 1 (stC (st2 pgs) ps) → StO W (st2 pgs) ps → stopcockref13_Decode.k5 (some a) n c b1 b2 b3 b11 b12 W (Ret (DecRes2 pgs w)) := fun sd o st => k5_all hb sd h2 h12 hop o st
  generalize hst2 : st2 pgs = st at fin
  have hst2 : (rdR (k2 pgs) (txt2 pgs) 8).1 = st := hst2
  generalize hkk : k2 pgs = k at hk hst2
  generalize txt2 pgs = T at o7 hT hbT hst2 ⊢
  unfold stopcockref13_Decode.k3
  rintro b12 w31 rfl rfl
  rw [zst_new]
  have o12 := (Owns.new (w := W) zst ty_api_State).lower (Nat.zero_le _)
  have x31 := Ex.alloc W (.cells zst.toArray ty_api_State)
  have hlow : w.heap.size ≤ W.heap.size := sd0.ex.size
  have hb1 : b1 < W.heap.size := (sd0.o1.ge rfl).2
  have hb3 : b3 < W.heap.size := (sd0.o3.ge rfl).2
  have hb11 : b11 < W.heap.size := (sd0.o11.ge rfl).2
  generalize W.heap.size = b12 at o12 hlow hb1 hb3 hb11 ⊢
  have sd := sd0.more x31
  have o7 := o7.ex x31
  generalize W.alloc (.cells zst.toArray ty_api_State) = w31 at o12 sd o7 ⊢
  have n1 : b1 ≠ b12 := by omega
  have n3 : b3 ≠ b12 := by omega
  have t12 := (o12.typed rfl).1
  refine o12.put (cs := zst) (by rfl) zst_one fun w32 k32 o32 => ?_
  have sd := sd.kp k32 (fun i hi => .inl hi) hlow t12 n1 n3
  have o7 := o7.away k32 ty_api_State (fun i hi => by rw [hi]; exact t12) (by decide)
  rw [zst_fl] at o32
  clear o12 k32 t12 x31 sd0
  unfold stopcockref13_Decode.l2
  refine ⟨fun t0p t0n t0c t2 t3 t6 t7p t7n t7c t11 t12 t13 t14 W' => some a = t0p ∧ n = t0n ∧ c = t0c ∧ b1 = t2 ∧ b2 = t3 ∧ b3 = t6 ∧ p7 = t7p ∧ T.length = t7n ∧ c7 = t7c ∧ b11 = t11 ∧ b12 = t12 ∧ 0 ≤ t13 ∧ t13 ≤ T.length ∧ (rdR k T t14.toNat).2 = T.drop t13.toNat ∧ 0 ≤ t14 ∧ t14 ≤ 8 ∧ Side pgs w a n c b1 b2 b3 b11 W' ∧ Owns W' 0 ty_uint8 1 p7 T.length c7 (v8 T) ∧
      ∃ ps, Owns W' 0 ty_api_State 24 (some ⟨b12, 0, none⟩) 1 1 (stC (fl (rdR k T t14.toNat).1) ps) ∧ StO W' (fl (rdR k T t14.toNat).1) ps ∧ ∀ j, t14.toNat ≤ j → j < 8 → ps[j]? = some (.slice none 0 0),
    fun t0p t0n t0c t2 t3 t6 t7p t7n t7c t11 t12 t13 t14 W' => (8 - t14).toNat, ⟨rfl, rfl, rfl, rfl, rfl, rfl, rfl, rfl, rfl, rfl, rfl, by omega, by omega, rfl, by omega, by omega, sd, o7, _, o32, StO.zero _, fun j _ hj => by rw [List.getElem?_replicate, if_pos hj]⟩, ?_⟩
  clear o32 o7 sd
  rintro _ _ _ _ _ _ _ _ _ _ _ t13 t14 W' ⟨rfl, rfl, rfl, rfl, rfl, rfl, rfl, rfl, rfl, rfl, rfl, a0, a1, hti, h0, h8, sd, o7, ps, own, hst, hnil⟩
  unfold stopcockref13_Decode.b2
  obtain ⟨i, rfl⟩ := Int.eq_ofNat_of_zero_le h0
  obtain ⟨at_, rfl⟩ := Int.eq_ofNat_of_zero_le a0
  rw [Int.toNat_natCast, Int.toNat_natCast] at hti
  rw [Int.toNat_natCast] at own hst hnil
  have hRl := rdR_len k T i
  have e2 : IntKind.i64.wrap ((at_ : Int) + 2) = ((at_ + 2 : Nat) : Int) := by rw [w64 (by omega) (by omega)]; rfl
  rw [e2]
  have out : (i = 8 ∨ (rdR k T i).2.length < 2) → stopcockref13_Decode.k5 (some a) n c b1 b2 b3 b11 b12 W' (Ret (DecRes2 pgs w)) := fun h => by
    have e := rd_fl (k := k) (t := T) (i := i) (by omega) h
    rw [hst2] at e
    rw [← e] at own hst
    exact fin sd own hst
  refine cond_of (fun hlt => ?_) (fun hlt => ?_)
  · have hlt := of_decide_eq_true hlt
    have hi : i < 8 := by omega
    refine cond_of (fun hc => ?_) (fun hc => ?_)
    · have hc := of_decide_eq_true hc
      have hc : at_ + 2 ≤ T.length := by omega
      obtain ⟨x, y, r, hxyr⟩ : ∃ x y r, T.drop at_ = x :: y :: r := by
        have hl : (T.drop at_).length = T.length - at_ := List.length_drop
        match h : T.drop at_ with
        | [] => rw [h] at hl; simp at hl; omega
        | [x] => rw [h] at hl; simp at hl; omega
        | x :: y :: r => exact ⟨x, y, r, rfl⟩
      have hbd : Bytes (x :: y :: r) := hxyr ▸ hbT.drop at_
      have hx := hbd x (by simp)
      have hy := hbd y (by simp)
      have hbr : Bytes r := fun z hz => hbd z (List.mem_cons_of_mem _ (List.mem_cons_of_mem _ hz))
      have hr : T.drop (at_ + 2) = r := by
        rw [← List.drop_drop, hxyr]
        rfl
      have hrl : r.length = T.length - (at_ + 2) := by rw [← hr, List.length_drop]
      have g0 : T[at_]? = some x := by
        have := congrArg (fun l => l[0]?) hxyr
        simpa [List.getElem?_drop] using this
      have g1 : T[at_ + 1]? = some y := by
        have := congrArg (fun l => l[1]?) hxyr
        simpa [List.getElem?_drop] using this
      have d := Ex.drew W'
      have o7d := o7.ex d
      obtain ⟨ad, rfl, r0⟩ := o7d.cells.many (j := at_) (v := .int .u8 x) (by unfold v8; rw [List.getElem?_map, g0]; rfl)
      have e1 : IntKind.i64.wrap ((at_ : Int) + 1) = ((at_ + 1 : Nat) : Int) := by rw [w64 (by omega) (by omega)]; rfl
      rw [e1]
      refine chk_of (decide_eq_true (by omega)) (chk_of (decide_eq_true (by omega)) ?_)
      try dsimp only [dI_i64, dI_u8, dI_u16, dI_u32, dB_bool, dS_slice, dP_ptr, dT_tup, dA_agg, dStr_str, dF_f, dC_c, dM_m, optP_some, ga0, ga1, ga2, ga3, ga4, cond_true, cond_false, chk_true, Bool.not_true, Bool.not_false, Option.isNone_none, Option.isNone_some, List.toList_toArray]
      rw [Int.toNat_natCast, Nat.mul_one]
      refine ⟨x, r0, chk_of (decide_eq_true (by omega)) (chk_of (decide_eq_true (by omega)) ?_)⟩
      rw [Int.toNat_natCast, Nat.mul_one]
      refine ⟨y, o7d.cells (at_ + 1) _ (by unfold v8; rw [List.getElem?_map, g1]; rfl), chk_of (decide_eq_true h0) (chk_of (decide_eq_true hlt) ?_)⟩
      rw [w64 (x := x) (by omega) (by omega), w64 (x := y) (by omega) (by omega), Int.toNat_natCast]
      generalize hm : min y.toNat (r.length / 2) = m
      generalize hl' : (Cel.unL 2 m r).map (pl2 k) = l'
      have hl'len : l'.length = m := by rw [← hl', List.length_map, Cel.unL_length]
      have ownd := own.ex d
      refine putAt ownd (i * 2) (ys := two x y) (by show i * 2 + 2 ≤ _; omega) (two_one' _ _) fun w33 k33 o33 => ?_
      have hK8 := hst.len
      have hpl8 := hst.pls
      rw [show stC (fl (rdR k T i).1) ps = kinds (fl (rdR k T i).1) ++ ps from rfl, stC_put hK8 hi x y l'] at o33
      have td := (ownd.typed rfl).1
      have sd33 := (sd.more d).kp k33 (fun i hi => .inl hi) hlow td n1 n3
      have o733 := o7d.away k33 ty_api_State (fun i hi => by rw [hi]; exact td) (by decide)
      have hst33 := (hst.ex d).away k33 ty_api_State (fun i hi => by rw [hi]; exact td) (by decide)
      have hset8 : ((fl (rdR k T i).1).set i (x, y, l')).length = 8 := by rw [List.length_set]; exact hK8
      have hK16 : (kinds ((fl (rdR k T i).1).set i (x, y, l'))).length = 16 := by rw [kinds_len, hset8]
      have hkind : (kinds ((fl (rdR k T i).1).set i (x, y, l')))[i * 2 + 1]? = some (.int .i64 y) := by
        obtain ⟨t, ht⟩ := kinds_at ((fl (rdR k T i).1).set i (x, y, l')) i (x, y, l') (by rw [List.getElem?_set, if_pos rfl, if_pos (by omega)])
        have := congrArg (fun l => l[1]?) ht
        rw [List.getElem?_drop] at this
        exact this
      generalize hKK : kinds ((fl (rdR k T i).1).set i (x, y, l')) = K at o33 hK16 hkind
      have hb12 : b12 < w33.heap.size := (o33.ge rfl).2
      have hb11' : b11 < w33.heap.size := (sd33.o11.ge rfl).2
      have had : ad.block < w33.heap.size := (o733.ge rfl).2
      have t733 := (o733.typed rfl).1
      have t1233 := (o33.typed rfl).1
      have t1133 := (sd33.o11.typed rfl).1
      have nil0 : ps.set i (.slice none (0 : Int).toNat 0) = ps := by
        apply List.ext_getElem?
        intro j
        rw [List.getElem?_set]
        split
        · rename_i h
          subst h
          rw [if_pos (by omega), hnil i (Nat.le_refl _) hi]
          rfl
        · rfl
      unfold stopcockref13_Decode.l3
      refine ⟨fun t0p t0n t0c t2 t3 t6 t7p t7n t7c t11 t12 t13 t14 t15 t82 t83 t84p t84n t84c t85 t86 W'' => some a = t0p ∧ n = t0n ∧ c = t0c ∧ b1 = t2 ∧ b2 = t3 ∧ b3 = t6 ∧ some ad = t7p ∧ T.length = t7n ∧ c7 = t7c ∧ b11 = t11 ∧ b12 = t12 ∧ t13 = (at_ : Int) + 2 + 2 * t15 ∧ (i : Int) = t14 ∧ 0 ≤ t15 ∧ t15 ≤ m ∧ Kp w33 W'' (fun z => z = b12 ∨ w33.heap.size ≤ z) ∧
          ∃ p c, Owns W'' 0 ty_api_State 24 (some ⟨b12, 0, none⟩) 1 1 (K ++ ps.set i (.slice p t15.toNat c)) ∧ Owns W'' w33.heap.size ty_complex128 1 p t15.toNat c ((((List.range t15.toNat).map (Cel.cut1 2 r)).map (pl2 k)).map plV),
        fun t0p t0n t0c t2 t3 t6 t7p t7n t7c t11 t12 t13 t14 t15 t82 t83 t84p t84n t84c t85 t86 W'' => (m - t15).toNat, ⟨rfl, rfl, rfl, rfl, rfl, rfl, rfl, rfl, rfl, rfl, rfl, by omega, rfl, by omega, by omega, Kp.refl _ _, none, 0, by rw [nil0]; exact o33, Owns.nil _ _ _ _⟩, ?_⟩
      rintro _ _ _ _ _ _ _ _ _ _ _ _ _ t15 t82 t83 t84p t84n t84c t85 t86 W'' ⟨rfl, rfl, rfl, rfl, rfl, rfl, rfl, rfl, rfl, rfl, rfl, rfl, rfl, j0, j1, hkp, p, c', owb, row⟩
      unfold stopcockref13_Decode.b3
      obtain ⟨j, rfl⟩ := Int.eq_ofNat_of_zero_le j0
      rw [Int.toNat_natCast] at owb row
      have keepb : ∀ z, z < w33.heap.size → z ≠ b12 → ¬ (z = b12 ∨ w33.heap.size ≤ z) := fun z h1 h2 h => by omega
      have sd'' := sd33.kp hkp (fun i hi => hi) hlow t1233 n1 n3
      have o7'' := o733.kp hkp fun z hz => by cases hz; exact keepb _ had (fun e => t733.ne t1233 (by decide) e)
      refine chk_of (decide_eq_true h0) (chk_of (decide_eq_true hlt) ?_)
      rw [Int.toNat_natCast, addr_kind, Addr.add_lit]
      have hky : (K ++ ps.set i (.slice p j c'))[i * 2 + 1]? = some (.int .i64 y) := by
        rw [List.getElem?_append_left (by omega)]
        exact hkind
      refine ⟨y, owb.at hky, ?_⟩
      have hnext : IntKind.i64.wrap ((j : Int) + 1) = ((j + 1 : Nat) : Int) := by rw [w64 (by omega) (by omega)]; rfl
      have htn : ((j + 1 : Nat) : Int).toNat = j + 1 := rfl
      have hm1 : m ≤ y.toNat := by omega
      have hm2 : 2 * m ≤ r.length := by omega
      have et : IntKind.i64.wrap ((at_ : Int) + 2 + 2 * (j : Int) + 2) = (at_ : Int) + 2 + 2 * (j : Int) + 2 := w64 (by omega) (by omega)
      rw [et]
      -- the entry is read
      have done : j = m → (fun (t0p : Option Addr) (t0n t0c t2 t3 t6 : Nat) (t7p : Option Addr) (t7n t7c t11 t12 : Nat) (t13 t14 : Int) (W' : World) => (some a = t0p ∧ n = t0n ∧ c = t0c ∧ b1 = t2 ∧ b2 = t3 ∧ b3 = t6 ∧ some ad = t7p ∧ T.length = t7n ∧ c7 = t7c ∧ b11 = t11 ∧ b12 = t12 ∧ 0 ≤ t13 ∧ t13 ≤ T.length ∧ (rdR k T t14.toNat).2 = T.drop t13.toNat ∧ 0 ≤ t14 ∧ t14 ≤ 8 ∧ Side pgs w a n c b1 b2 b3 b11 W' ∧ Owns W' 0 ty_uint8 1 (some ad) T.length c7 (v8 T) ∧
      ∃ ps, Owns W' 0 ty_api_State 24 (some ⟨b12, 0, none⟩) 1 1 (stC (fl (rdR k T t14.toNat).1) ps) ∧ StO W' (fl (rdR k T t14.toNat).1) ps ∧ ∀ j, t14.toNat ≤ j → j < 8 → ps[j]? = some (.slice none 0 0)) ∧ (8 - t14).toNat < (8 - (i : Int)).toNat) (some a) n c b1 b2 b3 (some ad) T.length c7 b11 b12 ((at_ : Int) + 2 + 2 * (j : Int)) (IntKind.i64.wrap ((i : Int) + 1)) W'' := by
        intro hjm
        subst hjm
        rw [wrap_next hi]
        have htn : ((i + 1 : Nat) : Int).toNat = i + 1 := rfl
        have hrd : rdR k T (i + 1) = ((rdR k T i).1 ++ [(x, y, l')], r.drop (2 * j)) := by
          show ((rdR k T i).1 ++ [(rdE k (rdR k T i).2).1], (rdE k (rdR k T i).2).2) = _
          rw [hti, hxyr, rdE_at hm, hl']
        have hent : okEnt (x, y, l') := ⟨by rw [← hl']; exact pls_ok hbr, by show l'.length ≤ 1000; omega, hx, hy⟩
        have eat : ((at_ : Int) + 2 + 2 * (j : Int)).toNat = at_ + 2 + 2 * j := by omega
        refine ⟨⟨rfl, rfl, rfl, rfl, rfl, rfl, rfl, rfl, rfl, rfl, rfl, by omega, by omega, ?_, by omega, by omega, sd'', o7'', ps.set i (.slice p j c'), ?_, ?_, ?_⟩, by ((try dsimp only); omega)⟩
        · rw [htn, hrd, eat, ← hr, List.drop_drop]
        · rw [htn, hrd]
          show Owns _ _ _ _ _ _ _ (kinds (fl ((rdR k T i).1 ++ [(x, y, l')])) ++ _)
          rw [← fl_set hRl hi, hKK]
          exact owb
        · rw [htn, hrd]
          show StO _ (fl ((rdR k T i).1 ++ [(x, y, l')])) _
          rw [← fl_set hRl hi]
          have hst'' : StO W'' (fl (rdR k T i).1) ps := hst33.kp hkp fun z ht hz => keepb _ hz (fun h => ht.ne t1233 (by decide) h)
          refine hst''.set hi hent hl'len ?_
          have e : (((List.range j).map (Cel.cut1 2 r)).map (pl2 k)).map plV = l'.map plV := by rw [← hl']; rfl
          rw [← e]
          exact row.lower (Nat.zero_le _)
        · intro jj g1 g2
          rw [htn] at g1
          rw [List.getElem?_set, if_neg (by omega)]
          exact hnil jj (by omega) g2
      refine cond_of (fun hcy => ?_) (fun hcy => ?_)
      · have hcy := of_decide_eq_true hcy
        refine cond_of (fun hcr => ?_) (fun hcr => ?_)
        · have hcr := of_decide_eq_true hcr
          have hjm : j < m := by omega
          have heat : (at_ : Int) + 2 + 2 * (j : Int) = ((at_ + 2 + 2 * j : Nat) : Int) := by omega
          refine callP.use (number_spec o7''.cells rfl (by omega) hbT ((at_ : Int) + 2 + 2 * (j : Int)) 2 (by omega)) ?_
          rintro _ w34 ⟨rfl, x34⟩
          try dsimp only [dI_i64, dI_u8, dI_u16, dI_u32, dB_bool, dS_slice, dP_ptr, dT_tup, dA_agg, dStr_str, dF_f, dC_c, dM_m, optP_some, ga0, ga1, ga2, ga3, ga4, cond_true, cond_false, chk_true, Bool.not_true, Bool.not_false, Option.isNone_none, Option.isNone_some, List.toList_toArray]
          have hgn : Cel.getN T ((at_ : Int) + 2 + 2 * (j : Int)) 2 = Cel.cut1 2 r j := by
            rw [heat, getN_at (by omega)]
            unfold Cel.cut1
            rw [← hr, List.drop_drop, Nat.mul_comm]
          rw [hgn]
          have hcr1 := cut_range hbr j
          have howl : w33.heap.size ≤ W''.heap.size := hkp.size
          have more1 : ∀ {w3 : World} {t82 t83 : Int} {t84p : Option Addr} {t84n t84c : Nat} {t85 : Int} {t86 : Bool} {z1 z2 : Int} {z3 : Option Addr} {z4 z5 : Nat} {z6 : Int} {z7 : Bool} {C2 : Option Addr → Nat → Nat → Nat → Nat → Nat → Option Addr → Nat → Nat → Nat → Nat → Int → Int → World → Prop}, Ex W'' w3 → ∀ {q : Pl}, q = pl2 k (Cel.cut1 2 r j) →
              stopcockref13_Decode.k4 (some a) n c b1 b2 b3 (some ad) T.length c7 b11 b12 ((at_ : Int) + 2 + 2 * (j : Int)) (i : Int) (j : Int) (plR q) (plM q) t82 t83 t84p t84n t84c t85 t86 z1 z2 z3 z4 z5 z6 z7 w3 (Ret (DecRes2 pgs w)) C2 (fun t0p t0n t0c t2 t3 t6 t7p t7n t7c t11 t12 t13 t14 t15 t82 t83 t84p t84n t84c t85 t86 W'' => (some a = t0p ∧ n = t0n ∧ c = t0c ∧ b1 = t2 ∧ b2 = t3 ∧ b3 = t6 ∧ some ad = t7p ∧ T.length = t7n ∧ c7 = t7c ∧ b11 = t11 ∧ b12 = t12 ∧ t13 = (at_ : Int) + 2 + 2 * t15 ∧ (i : Int) = t14 ∧ 0 ≤ t15 ∧ t15 ≤ m ∧ Kp w33 W'' (fun z => z = b12 ∨ w33.heap.size ≤ z) ∧
          ∃ p c, Owns W'' 0 ty_api_State 24 (some ⟨b12, 0, none⟩) 1 1 (K ++ ps.set i (.slice p t15.toNat c)) ∧ Owns W'' w33.heap.size ty_complex128 1 p t15.toNat c ((((List.range t15.toNat).map (Cel.cut1 2 r)).map (pl2 k)).map plV)) ∧ (m - t15).toNat < (m - (j : Int)).toNat) := by
            intro w3 t82 t83 t84p t84n t84c t85 t86 z1 z2 z3 z4 z5 z6 z7 C2 x3 q hq
            unfold stopcockref13_Decode.k4
            refine push_pl (q := q) hi hK16 (by rw [List.length_set]; exact hpl8) (owb.ex x3) (by rw [List.getElem?_set, if_pos rfl, if_pos (by omega)]) (row.ex x3) (by omega) (Nat.le_trans howl x3.size) fun p' c' w14 k14 o14 r14 => ?_
            rw [List.set_set] at o14
            rw [hnext, et]
            refine ⟨⟨rfl, rfl, rfl, rfl, rfl, rfl, rfl, rfl, rfl, rfl, rfl, by omega, rfl, by omega, by omega, (hkp.tr (x3.kp _)).tr k14, p', c', by rw [htn]; exact o14, ?_⟩, by ((try dsimp only); omega)⟩
            rw [htn, List.range_succ]
            simp only [List.map_append, List.map_cons, List.map_nil]
            rw [← hq]
            exact r14
          refine cond_of (fun hpos => ?_) (fun hpos => ?_)
          · have hpos := of_decide_eq_true hpos
            have hk1 : w34.cell? (⟨b11, 1, none⟩ : Addr) = some (.int .i64 k) := by
              rw [← hkk]
              exact (sd''.o11.ex x34).at (by rfl)
            refine ⟨k, hk1, ?_⟩
            rw [w64 (x := Cel.cut1 2 r j - 1) (by omega) (by omega)]
            refine callP.use (refPlace_spec (n := Cel.cut1 2 r j) ⟨by omega, hcr1.2⟩ hk w34) ?_
            rintro _ w36 ⟨e, rfl, x36⟩
            try dsimp only [dI_i64, dI_u8, dI_u16, dI_u32, dB_bool, dS_slice, dP_ptr, dT_tup, dA_agg, dStr_str, dF_f, dC_c, dM_m, optP_some, ga0, ga1, ga2, ga3, ga4, cond_true, cond_false, chk_true, Bool.not_true, Bool.not_false, Option.isNone_none, Option.isNone_some, List.toList_toArray]
            exact more1 (x34.trans x36) rfl
          · have hpos := of_decide_eq_false hpos
            have hz : Cel.cut1 2 r j = 0 := by omega
            have hq : (none : Pl) = pl2 k (Cel.cut1 2 r j) := by rw [hz]; rfl
            exact more1 x34 hq
        · have hcr := of_decide_eq_false hcr
          exact done (by omega)
      · have hcy := of_decide_eq_false hcy
        exact done (by omega)
    · have hc := of_decide_eq_false hc
      refine out (.inr ?_)
      rw [hti, List.length_drop]
      omega
  · have hlt := of_decide_eq_false hlt
    exact out (.inl (by omega))
end Go.Proofs.Ythgmebhkbbehmaa.G.En
namespace Go.Proofs.Ythgmebhkbbehmaa.G.En
open Go.Dec Go.RowKit
set_option linter.unusedVariables false
set_option linter.unusedSimpArgs false

def T2 (pgs : List (List Int)) (j : Nat) : List Int := (pgs.tail.take (j - 1)).flatMap part2
theorem T2_succ {pgs : List (List Int)} {j : Nat} {pg : List Int} (h : pgs[j]? = some pg) : T2 pgs (j + 1) = T2 pgs j ++ (if 0 < j then part2 pg else []) := by
  unfold T2
  cases j with
  | zero => simp
  | succ j =>
    have h1 : pgs.tail[j]? = some pg := by rw [List.getElem?_tail]; exact h
    obtain ⟨hj, rfl⟩ := List.getElem?_eq_some_iff.1 h1
    have e1 : j + 1 + 1 - 1 = j + 1 := rfl
    have e2 : j + 1 - 1 = j := rfl
    rw [e1, e2, if_pos (by omega), List.take_succ_eq_append_getElem hj, List.flatMap_append]
    simp
theorem T2_all {pgs : List (List Int)} (h : 1 ≤ pgs.length) : T2 pgs pgs.length = txt2 pgs := by
  unfold T2 txt2
  rw [List.take_of_length_le (by rw [List.length_tail]; omega)]
theorem part2_len {pg : List Int} (hb : Bytes pg) : (part2 pg).length ≤ 52 := by
  unfold part2
  have := said_range hb
  split
  · unfold partOf
    refine Nat.le_trans (List.length_take_le _ _) ?_
    omega
  · simp
theorem part2_bytes {pg : List Int} (hb : Bytes pg) : Bytes (part2 pg) := by
  unfold part2
  split
  · exact ((hb.take _).drop _).take _
  · exact fun x hx => by cases hx
theorem T2_bytes {pgs : List (List Int)} (hb : ∀ pg ∈ pgs, Bytes pg) (j : Nat) : Bytes (T2 pgs j) := fun x hx => by
  obtain ⟨pg, hpg, hx⟩ := List.mem_flatMap.1 hx
  exact part2_bytes (hb pg (List.mem_of_mem_tail (List.mem_of_mem_take hpg))) x hx
theorem refDecode_all {w : World} {P : Option Addr} {n c : Nat} {pgs : List (List Int)} (hp : PIn w P n c pgs) (hb : ∀ pg ∈ pgs, Bytes pg) : stopcockref13_Decode.C P n c w (Ret (DecRes2 pgs w)) := by
  have hlen := hp.len
  apply stopcockref13_Decode.ok
  unfold stopcockref13_Decode.main
  rintro b1 w1 rfl rfl b2 w2 rfl rfl b3 w3 rfl rfl
  rw [zst_new, two_new, zst_new]
  have o1 := (Owns.new (w := w) zst ty_api_State).lower (Nat.zero_le _)
  have x1 := Ex.alloc w (.cells zst.toArray ty_api_State)
  have hb1 : w.heap.size ≤ w.heap.size := Nat.le_refl _
  generalize hb1e : w.heap.size = b1 at o1 hb1 ⊢
  have hb1 : w.heap.size ≤ b1 := by omega
  generalize w.alloc (.cells zst.toArray ty_api_State) = w1 at o1 x1 ⊢
  have o2 := (Owns.new (w := w1) (two 0 0) ty_api_Plat).lower (Nat.zero_le _)
  have x2 := Ex.alloc w1 (.cells (two 0 0).toArray ty_api_Plat)
  have hb2 : w.heap.size ≤ w1.heap.size := x1.size
  generalize w1.heap.size = b2 at o2 hb2 ⊢
  generalize w1.alloc (.cells (two 0 0).toArray ty_api_Plat) = w2 at o2 x2 ⊢
  have o3 := (Owns.new (w := w2) zst ty_api_State).lower (Nat.zero_le _)
  have x3 := Ex.alloc w2 (.cells zst.toArray ty_api_State)
  have hb3 : w.heap.size ≤ w2.heap.size := (x1.trans x2).size
  have hb13 : b1 < w2.heap.size := ((o1.ex x2).ge rfl).2
  generalize w2.heap.size = b3 at o3 hb3 hb13 ⊢
  generalize w2.alloc (.cells zst.toArray ty_api_State) = w3 at o3 x3 ⊢
  have o1 := o1.ex (x2.trans x3)
  have o2 := o2.ex x3
  have hx3 := x1.trans (x2.trans x3)
  clear x1 x2 x3
  have t3 : ∀ i, i = b3 → Typed w3 ty_api_State i := fun i hi => by rw [hi]; exact (o3.typed rfl).1
  refine o3.put (cs := zst) (by rfl) zst_one fun w4 k4 o4 => ?_
  have hx4 := hx3.then k4 fun i hi => by omega
  have o1 := o1.kp k4 fun x hx => by cases hx; dsimp only; omega
  have o2 := o2.away k4 ty_api_State t3 (by decide)
  have bad : ∀ {W : World}, Ex w4 W → ¬ Good2 pgs → _ := fun {W} x hn => bad_ref (pgs := pgs) (hx4.trans x) hb1 hb2 (o1.ex x) (o2.ex x) (o4.ex x) hn
  clear o3 k4 t3
  refine cond_of (fun hc => ?_) (fun hc => ?_)
  · have hc := of_decide_eq_true hc
    exact bad (Ex.refl _) (fun g => by have := g.n2; omega)
  have hc1 := of_decide_eq_false hc
  refine cond_of (fun hc => ?_) (fun hc => ?_)
  · have hc := of_decide_eq_true hc
    exact bad (Ex.refl _) (fun g => by have := g.n12; omega)
  have hc2 := of_decide_eq_false hc
  have hp4 := hp.ex hx4
  rintro b4 w9 rfl rfl
  have o9 : Owns (w4.alloc (.cells #[] ty_uint8)) w4.heap.size ty_uint8 1 (some ⟨w4.heap.size, 0, none⟩) 0 0 (v8 []) := Owns.alloc (w := w4) [] ty_uint8 1 0 rfl
  have x9 := Ex.alloc w4 (.cells #[] ty_uint8)
  have hw4 := hx4.size
  have hb4e : w4.heap.size = w4.heap.size := rfl
  generalize hb4' : w4.heap.size = b4 at o9 hw4 ⊢
  generalize w4.alloc (.cells #[] ty_uint8) = w9 at o9 x9 ⊢
  have hbT : ∀ j, Bytes (T2 pgs j) := T2_bytes hb
  unfold stopcockref13_Decode.l1
  refine ⟨fun t0p t0n t0c t2 t3 t6 t7p t7n t7c t8 W => P = t0p ∧ n = t0n ∧ c = t0c ∧ b1 = t2 ∧ b2 = t3 ∧ b3 = t6 ∧ 0 ≤ t8 ∧ t8 ≤ n ∧ Ex w4 W ∧ (T2 pgs t8.toNat).length = t7n ∧ t7n ≤ t8.toNat * 52 ∧ Owns W b4 ty_uint8 1 t7p t7n t7c (v8 (T2 pgs t8.toNat)) ∧ ∀ j pg, j < t8.toNat → pgs[j]? = some pg → opnE pg = 0,
    fun t0p t0n t0c t2 t3 t6 t7p t7n t7c t8 W => (n - t8).toNat, ⟨rfl, rfl, rfl, rfl, rfl, rfl, by omega, by omega, x9, rfl, Nat.zero_le _, o9, fun j pg hj => by simp at hj⟩, ?_⟩
  clear o9
  rintro _ _ _ _ _ _ t7p t7n t7c t8 W ⟨rfl, rfl, rfl, rfl, rfl, rfl, i0, i1, hx, htn, ht52, o7, hop⟩
  unfold stopcockref13_Decode.b1
  obtain ⟨j, rfl⟩ := Int.eq_ofNat_of_zero_le i0
  rw [Int.toNat_natCast] at htn ht52 o7 hop
  have badx : ∀ {W' : World}, Ex W W' → ¬ Good2 pgs → _ := fun {W'} x hn => bad (hx.trans x) hn
  refine cond_of (fun hcj => ?_) (fun hcj => ?_)
  · have hcj := of_decide_eq_true hcj
    have hj : j < n := by omega
    obtain ⟨a, pg, q, d, rfl, hg, r, hd, hcp⟩ := (hp4.ex hx).get hj
    refine chk_of (decide_eq_true i0) (chk_of (decide_eq_true hcj) ?_)
    try dsimp only [dI_i64, dI_u8, dI_u16, dI_u32, dB_bool, dS_slice, dP_ptr, dT_tup, dA_agg, dStr_str, dF_f, dC_c, dM_m, optP_some, ga0, ga1, ga2, ga3, ga4, cond_true, cond_false, chk_true, Bool.not_true, Bool.not_false, Option.isNone_none, Option.isNone_some, List.toList_toArray]
    rw [Int.toNat_natCast, Nat.mul_one]
    refine ⟨q, pg.length, d, r, ?_⟩
    have hmem := List.mem_of_getElem? hg
    have hbpg := hb pg hmem
    refine callP.use (refOpen_spec q pg.length d pg W hcp rfl hd hbpg) ?_
    rintro _ w10 ⟨q', m, d', rfl, hm, oq, x10⟩
    try dsimp only [dI_i64, dI_u8, dI_u16, dI_u32, dB_bool, dS_slice, dP_ptr, dT_tup, dA_agg, dStr_str, dF_f, dC_c, dM_m, optP_some, ga0, ga1, ga2, ga3, ga4, cond_true, cond_false, chk_true, Bool.not_true, Bool.not_false, Option.isNone_none, Option.isNone_some, List.toList_toArray]
    refine cond_of (fun ho => ?_) (fun ho => ?_)
    · have ho : ¬ opnE pg = 0 := by simpa using ho
      exact badx x10 (fun g => ho (g.opens pg hmem))
    have ho : opnE pg = 0 := by simpa using ho
    obtain ⟨h64, hB⟩ := open_ok ho
    rw [hB] at oq
    have ht60 : (pg.take 60).length = 60 := by rw [List.length_take, h64]; rfl
    have hm60 : m = 60 := by have := own_len oq; omega
    subst hm60
    have hsr := said_range hbpg
    have hnext : IntKind.i64.wrap ((j : Int) + 1) = ((j + 1 : Nat) : Int) := by rw [w64 (by omega) (by omega)]; rfl
    have htn1 : ((j + 1 : Nat) : Int).toNat = j + 1 := rfl
    have hsucc := T2_succ hg
    have hop' : ∀ j' pg', j' < j + 1 → pgs[j']? = some pg' → opnE pg' = 0 := fun j' pg' hj' hg' => by
      by_cases he : j' = j
      · subst he
        rw [hg] at hg'
        cases hg'
        exact ho
      · exact hop j' pg' (by omega) hg'
    have hpl2 := part2_len hbpg
    have skip : T2 pgs (j + 1) = T2 pgs j → ((some a = some a ∧ n = n ∧ c = c ∧ b1 = b1 ∧ b2 = b2 ∧ b3 = b3 ∧ 0 ≤ IntKind.i64.wrap ((j : Int) + 1) ∧ IntKind.i64.wrap ((j : Int) + 1) ≤ n ∧ Ex w4 w10 ∧ (T2 pgs (IntKind.i64.wrap ((j : Int) + 1)).toNat).length = t7n ∧ t7n ≤ (IntKind.i64.wrap ((j : Int) + 1)).toNat * 52 ∧ Owns w10 b4 ty_uint8 1 t7p t7n t7c (v8 (T2 pgs (IntKind.i64.wrap ((j : Int) + 1)).toNat)) ∧ ∀ j' pg, j' < (IntKind.i64.wrap ((j : Int) + 1)).toNat → pgs[j']? = some pg → opnE pg = 0) ∧ (n - IntKind.i64.wrap ((j : Int) + 1)).toNat < (n - (j : Int)).toNat) := fun he => by
      rw [hnext, htn1, he]
      exact ⟨⟨rfl, rfl, rfl, rfl, rfl, rfl, by omega, by omega, hx.trans x10, htn, by omega, o7.ex x10, hop'⟩, by ((try dsimp only); omega)⟩
    refine cond_of (fun hpos => ?_) (fun hpos => ?_)
    · have hpos := of_decide_eq_true hpos
      obtain ⟨a3, rfl, r3⟩ := oq.cells.many (said_at ht60)
      refine chk_of (by decide) ?_
      try dsimp only [dI_i64, dI_u8, dI_u16, dI_u32, dB_bool, dS_slice, dP_ptr, dT_tup, dA_agg, dStr_str, dF_f, dC_c, dM_m, optP_some, ga0, ga1, ga2, ga3, ga4, cond_true, cond_false, chk_true, Bool.not_true, Bool.not_false, Option.isNone_none, Option.isNone_some, List.toList_toArray]
      refine ⟨said pg, r3, ?_⟩
      unfold stopcockref13_Decode.k1
      rw [if_pos (by omega)] at hsucc
      refine cond_of (fun h52 => ?_) (fun h52 => ?_)
      · have h52 := of_decide_eq_true h52
        refine chk_of (by decide) ?_
        try dsimp only [dI_i64, dI_u8, dI_u16, dI_u32, dB_bool, dS_slice, dP_ptr, dT_tup, dA_agg, dStr_str, dF_f, dC_c, dM_m, optP_some, ga0, ga1, ga2, ga3, ga4, cond_true, cond_false, chk_true, Bool.not_true, Bool.not_false, Option.isNone_none, Option.isNone_some, List.toList_toArray]
        refine ⟨said pg, r3, ?_⟩
        rw [w64 (x := said pg) (by omega) (by omega), w64 (x := 6 + said pg) (by omega) (by omega)]
        have hcap := oq.2.1
        refine chk_of (decide_eq_true (by omega)) (chk_of (decide_eq_true (by omega)) (chk_of (decide_eq_true (by omega)) ?_))
        have e6 : (6 + said pg).toNat - 6 = (said pg).toNat := by omega
        rw [e6]
        have hpl := part_len ht60 ⟨hsr.1, h52⟩
        have ep2 : part2 pg = partOf pg := by unfold part2; rw [if_pos h52]
        refine appP_own (B := b4) (o7.ex x10) (by have := (hx.trans x10).size; omega) (v8 (partOf pg)) (part_cells oq) (by rw [v8_len, hpl, Nat.mul_one]) (v8_one _) rfl (by omega) (by omega) ?_
        intro p4 c4 w21 o21 k21
        rw [v8_app, ← ep2, ← hsucc] at o21
        rw [hnext]
        refine ⟨⟨rfl, rfl, rfl, rfl, rfl, rfl, by omega, by omega, (hx.trans x10).then k21 fun i ⟨y, e, hi⟩ => by have := (o7.ge e).1; omega, ?_, ?_, by rw [htn1]; exact o21, by rw [htn1]; exact hop'⟩, by ((try dsimp only); omega)⟩
        · rw [htn1, hsucc, List.length_append, htn, ep2, hpl]
        · rw [htn1]; omega
      · have h52 := of_decide_eq_false h52
        have ep2 : part2 pg = [] := by unfold part2; rw [if_neg h52]
        exact skip (by rw [hsucc, ep2, List.append_nil])
    · have hpos := of_decide_eq_false hpos
      unfold stopcockref13_Decode.k1
      rw [if_neg (by omega), List.append_nil] at hsucc
      rw [cond_neg rfl]
      exact skip hsucc
  · have hcj := of_decide_eq_false hcj
    obtain rfl : j = n := by omega
    have eT : T2 pgs j = txt2 pgs := by rw [← hlen]; exact T2_all (by omega)
    rw [eT] at htn o7
    have hbt := hbT j
    rw [eT] at hbt
    have hopall : ∀ pg ∈ pgs, opnE pg = 0 := fun pg h => by
      obtain ⟨i, hi⟩ := List.getElem?_of_mem h
      exact hop i pg (by have := (List.getElem?_eq_some_iff.1 hi).1; omega) hi
    unfold stopcockref13_Decode.k2
    have d := Ex.drew W
    have hxd := hx.trans d
    obtain ⟨a, pg0, q0, d0, rfl, hg0, r0, hd0l, hcp0⟩ := (hp4.ex hxd).get (i := 0) (by omega)
    have hH : hd0 pgs = pg0 := by
      unfold hd0
      rw [List.headD_eq_head?_getD, List.head?_eq_getElem?, hg0]
      rfl
    have hbp0 := hb pg0 (List.mem_of_getElem? hg0)
    have h64 := (open_ok (hopall pg0 (List.mem_of_getElem? hg0))).1
    rw [show a.add 0 = a from Addr.add_zero' a] at r0
    have ek : Cel.getN pg0 9 1 = k2 pgs := by unfold k2; rw [hH]
    have es : Cel.getN pg0 8 1 = s2 pgs := by unfold s2; rw [hH]
    have hkr : 0 ≤ k2 pgs ∧ k2 pgs < 256 := by
      rw [← ek]
      unfold Cel.getN
      split
      · split
        · have h := Cel.num_bound ((pg0.drop (9 : Int).toNat).take (1 : Int).toNat) ((hbp0.drop _).take _)
          have hl : ((pg0.drop (9 : Int).toNat).take (1 : Int).toNat).length ≤ 1 := List.length_take_le _ _
          have := Cel.pow256_mono hl
          omega
        · omega
      · omega
    have o7b : Owns W 0 ty_uint8 1 t7p (txt2 pgs).length t7c (v8 (txt2 pgs)) := by rw [← htn] at o7; exact o7.lower (Nat.zero_le _)
    subst htn
    have cell0 : ∀ {W' : World}, Ex W.drew W' → W'.cell? a = some (.slice q0 pg0.length d0) := fun x => x.cell r0 id
    have fin : ∀ {b11 : Nat} {W' : World}, Ex W W' → Owns W' 0 ty_api_Plat 2 (some ⟨b11, 0, none⟩) 1 1 (two (s2 pgs) (k2 pgs)) → stopcockref13_Decode.k3 (some a) j c b1 b2 b3 t7p (txt2 pgs).length t7c b11 W' (Ret (DecRes2 pgs w)) := fun {b11 W'} x o11 => by
      refine k3_all hb ⟨hx4.trans (hx.trans x), hp, hb1, hb2, o1.ex (hx.trans x), o2.ex (hx.trans x), o4.ex (hx.trans x), o11⟩ (by omega) (by omega) hopall (o7b.ex x) (by omega) hbt hkr
    have num : ∀ {W' : World} (k : Int), 0 ≤ k ∧ k ≤ 1000 → Ex W.drew W' → stopcockref13_number.C q0 pg0.length d0 k 1 W' (Ret fun v w' => v = .int .i64 (Cel.getN pg0 k 1) ∧ Ex W' w') := fun k hk x => number_spec (hcp0.ex x) rfl (by omega) hbp0 k 1 hk
    refine chk_of (decide_eq_true (by omega)) ?_
    try dsimp only [dI_i64, dI_u8, dI_u16, dI_u32, dB_bool, dS_slice, dP_ptr, dT_tup, dA_agg, dStr_str, dF_f, dC_c, dM_m, optP_some, ga0, ga1, ga2, ga3, ga4, cond_true, cond_false, chk_true, Bool.not_true, Bool.not_false, Option.isNone_none, Option.isNone_some, List.toList_toArray]
    refine ⟨q0, _, d0, r0, chk_of (decide_eq_true (by omega)) ?_⟩
    try dsimp only [dI_i64, dI_u8, dI_u16, dI_u32, dB_bool, dS_slice, dP_ptr, dT_tup, dA_agg, dStr_str, dF_f, dC_c, dM_m, optP_some, ga0, ga1, ga2, ga3, ga4, cond_true, cond_false, chk_true, Bool.not_true, Bool.not_false, Option.isNone_none, Option.isNone_some, List.toList_toArray]
    refine ⟨q0, _, d0, r0, ?_, ?_⟩
    · refine callP.use (num 8 (by omega) (Ex.refl _)) ?_
      rintro _ w15 ⟨rfl, x15⟩
      try dsimp only [dI_i64, dI_u8, dI_u16, dI_u32, dB_bool, dS_slice, dP_ptr, dT_tup, dA_agg, dStr_str, dF_f, dC_c, dM_m, optP_some, ga0, ga1, ga2, ga3, ga4, cond_true, cond_false, chk_true, Bool.not_true, Bool.not_false, Option.isNone_none, Option.isNone_some, List.toList_toArray]
      refine ⟨cell0 x15, ?_, ?_⟩
      · refine callP.use (num 9 (by omega) x15) ?_
        rintro _ w17 ⟨rfl, x17⟩
        try dsimp only [dI_i64, dI_u8, dI_u16, dI_u32, dB_bool, dS_slice, dP_ptr, dT_tup, dA_agg, dStr_str, dF_f, dC_c, dM_m, optP_some, ga0, ga1, ga2, ga3, ga4, cond_true, cond_false, chk_true, Bool.not_true, Bool.not_false, Option.isNone_none, Option.isNone_some, List.toList_toArray]
        rintro b5 w19 rfl rfl
        rw [two_new]
        have o5 := (Owns.new (w := w17) (two 0 0) ty_api_Plat).lower (Nat.zero_le _)
        have x19 := Ex.alloc w17 (.cells (two 0 0).toArray ty_api_Plat)
        have hs := ((d.trans x15).trans x17).size
        generalize w17.heap.size = b5 at o5 hs ⊢
        generalize w17.alloc (.cells (two 0 0).toArray ty_api_Plat) = w19 at o5 x19 ⊢
        refine ⟨rfl, ?_⟩
        rw [es, ek]
        refine o5.put (cs := two (s2 pgs) (k2 pgs)) (by rfl) two_one fun w20 k20 o20 => ?_
        exact fin ((d.trans (x15.trans (x17.trans x19))).then k20 fun i hi => by omega) o20
      · rintro b6 w21 rfl rfl
        rw [two_new]
        have o5 := (Owns.new (w := w15) (two 0 0) ty_api_Plat).lower (Nat.zero_le _)
        have x21 := Ex.alloc w15 (.cells (two 0 0).toArray ty_api_Plat)
        have hs := (d.trans x15).size
        generalize w15.heap.size = b6 at o5 hs ⊢
        generalize w15.alloc (.cells (two 0 0).toArray ty_api_Plat) = w21 at o5 x21 ⊢
        refine ⟨cell0 (x15.trans x21), ?_⟩
        refine callP.use (num 9 (by omega) (x15.trans x21)) ?_
        rintro _ w22 ⟨rfl, x22⟩
        try dsimp only [dI_i64, dI_u8, dI_u16, dI_u32, dB_bool, dS_slice, dP_ptr, dT_tup, dA_agg, dStr_str, dF_f, dC_c, dM_m, optP_some, ga0, ga1, ga2, ga3, ga4, cond_true, cond_false, chk_true, Bool.not_true, Bool.not_false, Option.isNone_none, Option.isNone_some, List.toList_toArray]
        rw [es, ek]
        refine (o5.ex x22).put (cs := two (s2 pgs) (k2 pgs)) (by rfl) two_one fun w24 k24 o24 => ?_
        exact fin ((d.trans (x15.trans (x21.trans x22))).then k24 fun i hi => by omega) o24
    · rintro b7 w25 rfl rfl
      rw [two_new]
      have o5 := (Owns.new (w := W.drew) (two 0 0) ty_api_Plat).lower (Nat.zero_le _)
      have x25 := Ex.alloc W.drew (.cells (two 0 0).toArray ty_api_Plat)
      have hs := d.size
      generalize W.drew.heap.size = b7 at o5 hs ⊢
      generalize W.drew.alloc (.cells (two 0 0).toArray ty_api_Plat) = w25 at o5 x25 ⊢
      refine ⟨cell0 x25, cell0 x25, ?_⟩
      refine callP.use (num 8 (by omega) x25) ?_
      rintro _ w26 ⟨rfl, x26⟩
      try dsimp only [dI_i64, dI_u8, dI_u16, dI_u32, dB_bool, dS_slice, dP_ptr, dT_tup, dA_agg, dStr_str, dF_f, dC_c, dM_m, optP_some, ga0, ga1, ga2, ga3, ga4, cond_true, cond_false, chk_true, Bool.not_true, Bool.not_false, Option.isNone_none, Option.isNone_some, List.toList_toArray]
      refine ⟨cell0 (x25.trans x26), ?_⟩
      refine callP.use (num 9 (by omega) (x25.trans x26)) ?_
      rintro _ w28 ⟨rfl, x28⟩
      try dsimp only [dI_i64, dI_u8, dI_u16, dI_u32, dB_bool, dS_slice, dP_ptr, dT_tup, dA_agg, dStr_str, dF_f, dC_c, dM_m, optP_some, ga0, ga1, ga2, ga3, ga4, cond_true, cond_false, chk_true, Bool.not_true, Bool.not_false, Option.isNone_none, Option.isNone_some, List.toList_toArray]
      rw [es, ek]
      refine (o5.ex (x26.trans x28)).put (cs := two (s2 pgs) (k2 pgs)) (by rfl) two_one fun w30 k30 o30 => ?_
      exact fin ((d.trans (x25.trans (x26.trans x28))).then k30 fun i hi => by omega) o30
end Go.Proofs.Ythgmebhkbbehmaa.G.En
