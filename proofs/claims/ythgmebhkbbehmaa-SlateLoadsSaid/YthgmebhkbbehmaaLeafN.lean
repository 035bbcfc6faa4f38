/-
  What a state is laid as: leaf.payload of any state that fits.
-/
import Derived.Test.YthgmebhkbbehmaaLeafL
namespace Go.Proofs.Ythgmebhkbbehmaa.G
open Go.Dec Go.RowKit
set_option linter.unusedVariables false
set_option linter.unusedSimpArgs false

def numP (k : Int) : Pl → Int
  | none => 0
  | some x => x.1 * k + x.2 + 1
def numB (k : Int) (q : Pl) : List Int := Cel.be 2 (numP k q)
def plsB (k : Int) (l : List Pl) : List Int := l.flatMap (numB k)
def payE (k : Int) (e : Ent) : List Int := [e.1, e.2.1] ++ plsB k e.2.2
def pay (k : Int) (R : Sta) : List Int := R.flatMap (payE k)
theorem plsB_len (k : Int) : ∀ l : List Pl, (plsB k l).length = 2 * l.length
  | [] => rfl
  | q :: l => by
    have := plsB_len k l
    unfold plsB at this ⊢
    rw [List.flatMap_cons, List.length_append, this]
    unfold numB
    rw [Cel.be_length, List.length_cons]
    omega
theorem payE_len (k : Int) (e : Ent) : (payE k e).length = 2 + 2 * e.2.2.length := by
  unfold payE
  rw [List.length_append, plsB_len]
  rfl
theorem plsB_bytes (k : Int) (l : List Pl) : Bytes (plsB k l) := fun x hx => by
  obtain ⟨q, _, h⟩ := List.mem_flatMap.1 hx
  exact Cel.be_byte _ _ x h
theorem payE_bytes {k : Int} {e : Ent} (h : okEnt e) : Bytes (payE k e) := fun x hx => by
  unfold payE at hx
  rcases List.mem_append.1 hx with hx | hx
  · simp only [List.mem_cons, List.not_mem_nil, or_false] at hx
    rcases hx with rfl | rfl
    · exact h.2.2.1
    · exact h.2.2.2
  · exact plsB_bytes k _ x hx
theorem pay_bytes {k : Int} {R : Sta} (h : ∀ e ∈ R, okEnt e) : Bytes (pay k R) := fun x hx => by
  obtain ⟨e, he, h1⟩ := List.mem_flatMap.1 hx
  exact payE_bytes (h e he) x h1
theorem take_pay {R : Sta} {k : Nat} {e : Ent} (he : R[k]? = some e) (m : Int) : pay m (R.take (k + 1)) = pay m (R.take k) ++ payE m e := by
  obtain ⟨hk, rfl⟩ := List.getElem?_eq_some_iff.1 he
  unfold pay
  rw [List.take_succ_eq_append_getElem hk, List.flatMap_append]
  simp
theorem part_pay {R : Sta} (h : ∀ e ∈ R, okEnt e) (m : Int) (k : Nat) : (pay m (R.take k)).length ≤ k * 2002 := by
  induction k with
  | zero => simp [pay]
  | succ k ih =>
    by_cases hk : k < R.length
    · rw [take_pay (List.getElem?_eq_getElem hk), List.length_append, payE_len]
      have h1 := (h _ (List.getElem_mem hk)).2.1
      omega
    · rw [List.take_of_length_le (by omega)]
      rw [List.take_of_length_le (by omega)] at ih
      exact Nat.le_trans ih (Nat.mul_le_mul_right 2002 (Nat.le_succ k))
theorem row_two {n : Int} (h : 0 ≤ n ∧ n < 65536) : Cel.rowB 2 [n] = Cel.be 2 n := by
  have := (Cel.row_in (k := 2) (by omega) (by omega) [n]).2
  have e : ((2 : Nat) : Int) = 2 := rfl
  rw [e] at this
  rw [this, if_pos (by simp [Cel.okNum]; omega)]
  simp
theorem row_four {n : Int} (h : 0 ≤ n ∧ n < 4294967296) : Cel.rowB 4 [n] = Cel.be 4 n := by
  have := (Cel.row_in (k := 4) (by omega) (by omega) [n]).2
  have e : ((4 : Nat) : Int) = 4 := rfl
  rw [e] at this
  rw [this, if_pos (by simp [Cel.okNum]; omega)]
  simp
theorem row_three {a b c : Int} (ha : 0 ≤ a ∧ a < 256) (hb : 0 ≤ b ∧ b < 256) (hc : 0 ≤ c ∧ c < 256) : Cel.rowB 1 [a, b, c] = [a, b, c] := by
  have := (Cel.row_in (k := 1) (by omega) (by omega) [a, b, c]).2
  have e : ((1 : Nat) : Int) = 1 := rfl
  rw [e] at this
  rw [this, if_pos (by simp [Cel.okNum]; omega)]
  simp [Cel.be]
  omega
theorem in_fits {s k : Int} {R : Sta} (h : FitR s k R) {e : Ent} (he : e ∈ R) {x : Nat × Nat} (hx : some x ∈ e.2.2) : (x.2 : Int) < k ∧ (x.1 : Int) * k + x.2 < s * k := by
  have := out_used.1 h.1.2.2 x (List.mem_flatMap.2 ⟨e, he, List.mem_filterMap.2 ⟨_, hx, rfl⟩⟩)
  rw [inPl_some] at this
  simpa using this
theorem payload_all {w : World} {R : Sta} {ps : List Value} (h : StAt w R ps) {s m : Int} (hF : FitR s m R) :
    leaf_payload.C (stC R ps).toArray s m w (Ret fun v w' => (∃ p c, v = .slice p (pay m R).length c ∧ Owns w' w.heap.size ty_uint8 1 p (pay m R).length c (v8 (pay m R))) ∧ Ex w w') := by
  have hh := may_iff.1 hF.1.1
  have hp := prod_le hh
  apply leaf_payload.ok
  unfold leaf_payload.main
  have hrow := h.row
  rintro b1 w1 rfl rfl b2 w2 rfl rfl
  have o1 := Owns.new (w := w) (stC R ps) ty_api_State
  have x1 := Ex.alloc w (.cells (stC R ps).toArray ty_api_State)
  generalize hb1 : w.heap.size = b1 at o1 ⊢
  generalize w.alloc (.cells (stC R ps).toArray ty_api_State) = w1 at o1 x1 ⊢
  have o2 := Owns.new (w := w1) (two s m) ty_api_Plat
  have x2 := Ex.alloc w1 (.cells (two s m).toArray ty_api_Plat)
  have e2 : w1.alloc (.cells #[.int .i64 s, .int .i64 m] ty_api_Plat) = w1.alloc (.cells (two s m).toArray ty_api_Plat) := rfl
  rw [e2]
  have hw1 := x1.size
  generalize w1.heap.size = b2 at o2 hw1 ⊢
  generalize w1.alloc (.cells (two s m).toArray ty_api_Plat) = w2 at o2 x2 ⊢
  have o1 := o1.ex x2
  have hx2 := x1.trans x2
  have h := h.ex hx2
  refine ⟨(kinds R).toArray, by rw [List.size_toArray]; exact h.klen, by have := CellsO.take o1.cells 16; rwa [h.take] at this, ?_⟩
  unfold leaf_payload.l1
  refine ⟨fun t2 t3 t5p t5n t5c t12 t13 w' => b1 = t2 ∧ b2 = t3 ∧ (kinds R).toArray = t12 ∧ 0 ≤ t13 ∧ t13 ≤ 8 ∧ t5n = (pay m (R.take t13.toNat)).length ∧ Owns w' w2.heap.size ty_uint8 1 t5p t5n t5c (v8 (pay m (R.take t13.toNat))) ∧ Ex w2 w', fun t2 t3 t5p t5n t5c t12 t13 w' => (8 - t13).toNat, ⟨rfl, rfl, rfl, by omega, by omega, rfl, Owns.nil _ _ _ _, Ex.refl _⟩, ?_⟩
  rintro _ _ t5p t5n t5c _ t13 w' ⟨rfl, rfl, rfl, h0, h8, hn, own, hx⟩
  unfold leaf_payload.b1
  obtain ⟨k, rfl⟩ := Int.eq_ofNat_of_zero_le h0
  rw [Int.toNat_natCast] at hn own
  subst hn
  refine cond_of (fun hlt => ?_) (fun hlt => ?_)
  · have hlt := of_decide_eq_true hlt
    have hk : k < 8 := by omega
    obtain ⟨e, he⟩ := h.get hk
    obtain ⟨p, c, hpp, hcells0⟩ := hrow k e he
    have hcells := (hcells0.ex x1).ex x2
    have hem := List.mem_of_getElem? he
    obtain ⟨hok, hl, hk1, hk2⟩ := h.ok e hem
    have hpl := part_pay h.ok m k
    refine chk_of (decide_eq_true h0) (chk_of (decide_eq_true hlt) ?_)
    rw [Int.toNat_natCast, h.pair he]
    rintro b3 w3 rfl rfl
    have o3 := Owns.new (w := w') [.int .i64 0, .int .i64 0] ty_api_Entry
    have x3 := Ex.alloc w' (.cells [Value.int .i64 0, .int .i64 0].toArray ty_api_Entry)
    generalize w'.alloc (.cells #[.int .i64 0, .int .i64 0] ty_api_Entry) = w3 at o3 x3 ⊢
    refine chk_of (by rfl) ?_
    refine o3.put (cs := two e.1 e.2.1) (by rfl) (two_one' _ _) fun w4 k4 o4 => ?_
    have x4 : Ex w' w4 := x3.then k4 fun i hi => hi ▸ Nat.le_refl _
    refine ⟨e.1, o4.at (by rfl), e.2.1, o4.at (by rfl), ?_⟩
    rintro b4 w5 rfl rfl
    have o5 := Owns.alloc (w := w4) (Cel.v64 [e.1, e.2.1]) ty_int 1 2 rfl
    have x5 := Ex.alloc w4 (.cells (Cel.v64 [e.1, e.2.1]).toArray ty_int)
    have e5 : w4.alloc (.cells #[.int .i64 e.1, .int .i64 e.2.1] ty_int) = w4.alloc (.cells (Cel.v64 [e.1, e.2.1]).toArray ty_int) := rfl
    rw [e5]
    generalize w4.alloc (.cells (Cel.v64 [e.1, e.2.1]).toArray ty_int) = w5 at o5 x5 ⊢
    have x45 := x4.trans x5
    refine callP.use (put_spec (own.ex x45) (hx.trans x45).size 1 o5.cells rfl (by omega) (by omega)) ?_
    rintro _ w6 ⟨p6, c6, rfl, o6, k6⟩
    try dsimp only [dI_i64, dI_u8, dI_u16, dI_u32, dB_bool, dS_slice, dP_ptr, dT_tup, dA_agg, dStr_str, dF_f, dC_c, dM_m, optP_some, ga0, ga1, ga2, ga3, ga4, cond_true, cond_false, chk_true, Bool.not_true, Bool.not_false, Option.isNone_none, Option.isNone_some, List.toList_toArray]
    rw [rowB1 _ _ hk1 hk2] at o6 ⊢
    have x6 : Ex w2 w6 := (hx.trans x45).then k6 fun i ⟨x, e, hi⟩ => by
      have := (own.ge e).1
      omega
    refine chk_of (decide_eq_true h0) (chk_of (decide_eq_true hlt) ?_)
    rw [addr16]
    refine ⟨p, e.2.2.length, c, (o1.ex x6).at (by rw [h.place, hpp]), ?_⟩
    unfold leaf_payload.l2
    generalize hP : pay m (R.take k) = P at own o6 hpl ⊢
    rw [← List.length_append] at o6 ⊢
    refine ⟨fun t2 t3 t5p t5n t5c t12 t13 t27p t27n t27c t28 t29 w'' => b1 = t2 ∧ b2 = t3 ∧ (kinds R).toArray = t12 ∧ (k : Int) = t13 ∧ p = t27p ∧ e.2.2.length = t27n ∧ c = t27c ∧ (e.2.2.length : Int) = t28 ∧ 0 ≤ t29 ∧ t29 ≤ e.2.2.length ∧ t5n = (P ++ [e.1, e.2.1] ++ plsB m (e.2.2.take t29.toNat)).length ∧ Owns w'' w2.heap.size ty_uint8 1 t5p t5n t5c (v8 (P ++ [e.1, e.2.1] ++ plsB m (e.2.2.take t29.toNat))) ∧ Ex w2 w'',
      fun t2 t3 t5p t5n t5c t12 t13 t27p t27n t27c t28 t29 w'' => (e.2.2.length - t29).toNat, ⟨rfl, rfl, rfl, rfl, rfl, rfl, rfl, rfl, by omega, by omega, by simp [plsB], by simpa [plsB] using o6, x6⟩, ?_⟩
    clear own o6 x6 k6
    rintro _ _ t5p t5n t5c _ _ _ _ _ _ t29 w'' ⟨rfl, rfl, rfl, rfl, rfl, rfl, rfl, rfl, i0, i1, hn, own, hx6⟩
    unfold leaf_payload.b2
    obtain ⟨j, rfl⟩ := Int.eq_ofNat_of_zero_le i0
    rw [Int.toNat_natCast] at hn own
    subst hn
    refine cond_of (fun hc => ?_) (fun hc => ?_)
    · have hc := of_decide_eq_true hc
      have hj : j < e.2.2.length := by omega
      obtain ⟨a, rfl, r⟩ := pl_get (hcells.ex hx6) hj
      have hq := hok _ (List.getElem_mem hj)
      have hmem := List.getElem_mem hj
      have htk : plsB m (e.2.2.take (j + 1)) = plsB m (e.2.2.take j) ++ numB m e.2.2[j] := by
        unfold plsB
        rw [List.take_succ_eq_append_getElem hj, List.flatMap_append]
        simp
      have hln : (P ++ [e.1, e.2.1] ++ plsB m (e.2.2.take j)).length ≤ 100000 := by
        rw [List.length_append, List.length_append, plsB_len, List.length_take]
        simp only [List.length_cons, List.length_nil]
        omega
      refine chk_of (decide_eq_true i0) (chk_of (decide_eq_true hc) ?_)
      try dsimp only [dI_i64, dI_u8, dI_u16, dI_u32, dB_bool, dS_slice, dP_ptr, dT_tup, dA_agg, dStr_str, dF_f, dC_c, dM_m, optP_some, ga0, ga1, ga2, ga3, ga4, cond_true, cond_false, chk_true, Bool.not_true, Bool.not_false, Option.isNone_none, Option.isNone_some, List.toList_toArray]
      rw [Int.toNat_natCast, Nat.mul_one]
      refine ⟨_, _, r, ?_⟩
      rw [empty_eq hq]
      have hnext : IntKind.i64.wrap ((j : Int) + 1) = ((j + 1 : Nat) : Int) := by rw [w64 (by omega) (by omega)]; rfl
      have htn : ((j + 1 : Nat) : Int).toNat = j + 1 := rfl
      have put : ∀ {n : Int} {w3 : World} {b : Nat} {N : Value → World → Prop} {X : List PanicEntry → World → Prop}, Ex w2 w3 → Owns w3 w2.heap.size ty_uint8 1 t5p (P ++ [e.1, e.2.1] ++ plsB m (e.2.2.take j)).length t5c (v8 (P ++ [e.1, e.2.1] ++ plsB m (e.2.2.take j))) → CellsO w3 (some ⟨b, 0, none⟩) (Cel.v64 [n]) → numP m e.2.2[j] = n → 0 ≤ n → n < 65536 →
          (∀ p c w4, Ex w2 w4 → Owns w4 w2.heap.size ty_uint8 1 p (P ++ [e.1, e.2.1] ++ plsB m (e.2.2.take (j + 1))).length c (v8 (P ++ [e.1, e.2.1] ++ plsB m (e.2.2.take (j + 1)))) → N (.slice p (P ++ [e.1, e.2.1] ++ plsB m (e.2.2.take (j + 1))).length c) w4) →
          callP Try.prog 52 #[.slice t5p (P ++ [e.1, e.2.1] ++ plsB m (e.2.2.take j)).length t5c, .int .i64 2, .slice (some ⟨b, 0, none⟩) 1 1] w3 N X := by
        intro n w3 b N X hx own hc hnum hn0 hn1 K
        refine callP.use (put_spec own hx.size 2 hc rfl (by omega) (by omega)) ?_
        rintro _ w4 ⟨p', c', rfl, o, k⟩
        rw [row_two ⟨hn0, hn1⟩] at o ⊢
        have e1 : numB m e.2.2[j] = Cel.be 2 n := by unfold numB; rw [hnum]
        rw [← e1] at o ⊢
        rw [htk, ← List.append_assoc, List.length_append] at K
        refine K p' c' w4 (hx.then k fun i ⟨x, ex, hi⟩ => by have := (own.ge ex).1; omega) o
      cases hqe : e.2.2[j] with
      | none =>
        rw [cond_neg (by rfl)]
        rintro b6 w13 rfl rfl
        have o6 := Owns.alloc (w := w'') (Cel.v64 [0]) ty_int 1 1 rfl
        have x6 := Ex.alloc w'' (.cells (Cel.v64 [0]).toArray ty_int)
        have e6 : w''.alloc (.cells #[.int .i64 0] ty_int) = w''.alloc (.cells (Cel.v64 [0]).toArray ty_int) := rfl
        rw [e6]
        generalize w''.alloc (.cells (Cel.v64 [0]).toArray ty_int) = w13 at o6 x6 ⊢
        refine put (hx6.trans x6) (own.ex x6) o6.cells (by rw [hqe]; rfl) (by omega) (by omega) fun p' c' w14 x14 o14 => ?_
        try dsimp only [dI_i64, dI_u8, dI_u16, dI_u32, dB_bool, dS_slice, dP_ptr, dT_tup, dA_agg, dStr_str, dF_f, dC_c, dM_m, optP_some, ga0, ga1, ga2, ga3, ga4, cond_true, cond_false, chk_true, Bool.not_true, Bool.not_false, Option.isNone_none, Option.isNone_some, List.toList_toArray]
        rw [hnext]
        exact ⟨⟨rfl, rfl, rfl, rfl, rfl, rfl, rfl, rfl, by omega, by omega, by rw [htn], by rw [htn]; exact o14, x14⟩, by ((try dsimp only); omega)⟩
      | some x =>
        rw [hqe] at hq hmem
        rw [cond_pos (by rfl)]
        have hin := in_fits hF hem hmem
        refine ⟨m, ((o2.ex hx6).at (by rfl)), ?_⟩
        refine callP.use (Flat_spec (some x) hq m (by omega) w'') ?_
        rintro _ w8 ⟨rfl, e8⟩
        obtain rfl := e8.symm
        rw [flt_some, if_pos hin.1]
        have e : (Cel.v64 [(x.1 : Int) * m + x.2, 0]).toArray = #[.int .i64 ((x.1 : Int) * m + x.2), .int .i64 0] := rfl
        rw [e]
        try dsimp only [dI_i64, dI_u8, dI_u16, dI_u32, dB_bool, dS_slice, dP_ptr, dT_tup, dA_agg, dStr_str, dF_f, dC_c, dM_m, optP_some, ga0, ga1, ga2, ga3, ga4, cond_true, cond_false, chk_true, Bool.not_true, Bool.not_false, Option.isNone_none, Option.isNone_some, List.toList_toArray]
        have hfl := flat_le (k := m) hq.1 (by omega)
        have hx2lt := hq.2
        rw [w64 (x := (x.1 : Int) * m + x.2 + 1) (by omega) (by omega)]
        rintro b5 w10 rfl rfl
        have o5 := Owns.alloc (w := w'') (Cel.v64 [(x.1 : Int) * m + x.2 + 1]) ty_int 1 1 rfl
        have x5 := Ex.alloc w'' (.cells (Cel.v64 [(x.1 : Int) * m + x.2 + 1]).toArray ty_int)
        have e5 : w''.alloc (.cells #[.int .i64 ((x.1 : Int) * m + x.2 + 1)] ty_int) = w''.alloc (.cells (Cel.v64 [(x.1 : Int) * m + x.2 + 1]).toArray ty_int) := rfl
        rw [e5]
        generalize w''.alloc (.cells (Cel.v64 [(x.1 : Int) * m + x.2 + 1]).toArray ty_int) = w10 at o5 x5 ⊢
        refine put (hx6.trans x5) (own.ex x5) o5.cells (by rw [hqe]; rfl) (by omega) (by omega) fun p' c' w11 x11 o11 => ?_
        try dsimp only [dI_i64, dI_u8, dI_u16, dI_u32, dB_bool, dS_slice, dP_ptr, dT_tup, dA_agg, dStr_str, dF_f, dC_c, dM_m, optP_some, ga0, ga1, ga2, ga3, ga4, cond_true, cond_false, chk_true, Bool.not_true, Bool.not_false, Option.isNone_none, Option.isNone_some, List.toList_toArray]
        rw [hnext]
        exact ⟨⟨rfl, rfl, rfl, rfl, rfl, rfl, rfl, rfl, by omega, by omega, by rw [htn], by rw [htn]; exact o11, x11⟩, by ((try dsimp only); omega)⟩
    · have hc := of_decide_eq_false hc
      have hj : j = e.2.2.length := by omega
      rw [wrap_next hk]
      have htn : ((k + 1 : Nat) : Int).toNat = k + 1 := rfl
      have hfull : P ++ [e.1, e.2.1] ++ plsB m (e.2.2.take j) = pay m (R.take (k + 1)) := by
        rw [take_pay he, hP, hj, List.take_length]
        unfold payE
        rw [List.append_assoc]
      rw [hfull] at own ⊢
      exact ⟨⟨rfl, rfl, rfl, by omega, by omega, by rw [htn], by rw [htn]; exact own, hx6⟩, by ((try dsimp only); omega)⟩
  · have hlt := of_decide_eq_false hlt
    obtain rfl : k = 8 := by omega
    rw [List.take_of_length_le (by rw [h.len]; omega)] at own ⊢
    exact Ret.mk ⟨⟨t5p, t5c, rfl, own.lower (hb1 ▸ hx2.size)⟩, hx2.trans hx⟩
end Go.Proofs.Ythgmebhkbbehmaa.G
namespace Go.Proofs.Ythgmebhkbbehmaa.G.En
open Go.Dec Go.RowKit
set_option linter.unusedVariables false
set_option linter.unusedSimpArgs false

/-- what a header says: number, segments, blocks, how many pages, how many bytes -/
structure Hd where
  q : Int
  s : Int
  k : Int
  m : Nat
  n : Nat
structure Hd.Ok (H : Hd) : Prop where
  q : 0 ≤ H.q ∧ H.q < 4294967296
  s : 0 ≤ H.s ∧ H.s < 256
  k : 0 ≤ H.k ∧ H.k < 256
  m : H.m < 256
  n : H.n < 65536
def hd1 (H : Hd) : List Int := slat ++ Cel.be 4 H.q
def hd2 (H : Hd) : List Int := hd1 H ++ [H.s, H.k, (H.m : Int)]
def hd3 (H : Hd) : List Int := hd2 H ++ Cel.be 2 (H.n : Int)
structure Ctx (H : Hd) (W : World) (b2 b3 b4 : Nat) (p20 : Option Addr) (c20 : Nat) : Prop where
  ok : H.Ok
  k2 : Owns W 0 ty_api_Plat 2 (some ⟨b2, 0, none⟩) 1 1 [.int .i64 H.s, .int .i64 H.k]
  k3 : Owns W 0 ty_int 1 (some ⟨b3, 0, none⟩) 1 1 [.int .i64 H.q]
  k4 : Owns W 0 ty_sl_sl_uint8 1 (some ⟨b4, 0, none⟩) 1 1 [.slice p20 H.m c20]
def Fin (H : Hd) (W : World) (D b4 : Nat) (p1 : Option Addr) (c1 : Nat) (R : Ending → World → Prop) : Prop :=
  ∀ (p23 : Option Addr) (c23 : Nat) (w58 : World), Ex W w58 → Sl W w58 p23 13 c23 (hd3 H) → ∃ (p24 : Option Addr) (n18 c24 : Nat), w58.drew.cell? (⟨b4, 0, none⟩ : Addr) = some (.slice p24 n18 c24) ∧ leaf_Encode.o17 D p1 H.n c1 w58 b4 p24 n18 c24 p23 13 c23 R
theorem putY {W w : World} {N : Value → World → Prop} {X : List PanicEntry → World → Prop} (hx : Ex W w) {p : Option Addr} {n c : Nat} {xs : List Int} (h1 : Sl W w p n c xs) {b : Nat} {l : List Int} (h2 : Bx w b l) {s : Int} {r : List Int} (hr : Cel.rowB s l = r) (n' m' : Nat) (hn' : n + r.length = n') (hm : l.length = m') (hn : n ≤ 1000) (hl : m' ≤ 10)
    (K : ∀ p c w', Ex W w' → (∀ b l, Bx w b l → Bx w' b l) → Sl W w' p n' c (xs ++ r) → N (.slice p n' c) w') : callP Try.prog 52 #[.slice p n c, .int .i64 s, .slice (some ⟨b, 0, none⟩) m' m'] w N X := by
  subst hn' hm
  exact putX hx h1 h2 hr hn hl K
theorem putA {H : Hd} (hk : H.Ok) {W w : World} {N : Value → World → Prop} {X : List PanicEntry → World → Prop} (hx : Ex W w) {b13 b14 : Nat} (h13 : Sl W w (some ⟨b13, 0, none⟩) 4 4 slat) (h14 : Bx w b14 [H.q])
    (K : ∀ p c w', Ex W w' → (∀ b l, Bx w b l → Bx w' b l) → Sl W w' p 8 c (hd1 H) → N (.slice p 8 c) w') : callP Try.prog 52 #[.slice (some ⟨b13, 0, none⟩) 4 4, .int .i64 4, .slice (some ⟨b14, 0, none⟩) 1 1] w N X :=
  putY hx h13 h14 (row_four hk.q) 8 1 (by rw [Cel.be_length]) rfl (by omega) (by decide) K
theorem putB {H : Hd} (hk : H.Ok) {W w : World} {N : Value → World → Prop} {X : List PanicEntry → World → Prop} (hx : Ex W w) {p21 : Option Addr} {c21 b15 : Nat} (s1 : Sl W w p21 8 c21 (hd1 H)) (h15 : Bx w b15 [H.s, H.k, (H.m : Int)])
    (K : ∀ p c w', Ex W w' → (∀ b l, Bx w b l → Bx w' b l) → Sl W w' p 11 c (hd2 H) → N (.slice p 11 c) w') : callP Try.prog 52 #[.slice p21 8 c21, .int .i64 1, .slice (some ⟨b15, 0, none⟩) 3 3] w N X :=
  putY hx s1 h15 (row_three hk.s hk.k ⟨by omega, by have := hk.m; omega⟩) 11 3 rfl rfl (by omega) (by decide) K
theorem putC {H : Hd} (hk : H.Ok) {W w : World} {N : Value → World → Prop} {X : List PanicEntry → World → Prop} (hx : Ex W w) {p22 : Option Addr} {c22 b16 : Nat} (s2 : Sl W w p22 11 c22 (hd2 H)) (h16 : Bx w b16 [(H.n : Int)])
    (K : ∀ p c w', Ex W w' → (∀ b l, Bx w b l → Bx w' b l) → Sl W w' p 13 c (hd3 H) → N (.slice p 13 c) w') : callP Try.prog 52 #[.slice p22 11 c22, .int .i64 2, .slice (some ⟨b16, 0, none⟩) 1 1] w N X :=
  putY hx s2 h16 (row_two ⟨by omega, by have := hk.n; omega⟩) 13 1 (by rw [Cel.be_length]) rfl (by omega) (by decide) K
end Go.Proofs.Ythgmebhkbbehmaa.G.En
