/-
  Which states fit: owner.all, owner.Fit; the document's all, Sort, Places, Within, Fit.
-/
import Derived.Test.YthgmebhkbbehmaaLeafJ
namespace Go.Proofs.Ythgmebhkbbehmaa.G
open Go.Dec Go.RowKit
set_option linter.unusedVariables false
set_option linter.unusedSimpArgs false

theorem MapAt.mono {w : World} {B b n n' : Nat} {ks : List (Nat × Nat)} (h : MapAt w B b n ks) (hn : n ≤ n') : MapAt w B b n' ks := by
  obtain ⟨h1, es, h2, h3, h4, h5⟩ := h
  refine ⟨h1, es, h2, h3, fun i e he => ?_, h5⟩
  obtain ⟨g1, p, m, c, xs, g2, g3, g4⟩ := h4 i e he
  exact ⟨g1, p, m, c, xs, g2, g3, by omega⟩
theorem take_used {R : Sta} {k : Nat} {e : Ent} (he : R[k]? = some e) : (R.take (k + 1)).flatMap usedE = (R.take k).flatMap usedE ++ usedE e := by
  obtain ⟨hk, rfl⟩ := List.getElem?_eq_some_iff.1 he
  rw [List.take_succ_eq_append_getElem hk, List.flatMap_append]
  simp
theorem take_pl {l : List Pl} {j : Nat} (hj : j < l.length) : (l.take (j + 1)).filterMap id = (l.take j).filterMap id ++ [l[j]].filterMap id := by
  rw [List.take_succ_eq_append_getElem hj, List.filterMap_append]
theorem used_ok' {R : Sta} (h : ∀ e ∈ R, okEnt e) : ∀ x ∈ used R, okP x := fun x hx => by
  obtain ⟨e, he, h1⟩ := List.mem_flatMap.1 hx
  exact used_ok (h e he).1 x h1
theorem part_ok {R : Sta} (h : ∀ e ∈ R, okEnt e) {k : Nat} {e : Ent} (he : R[k]? = some e) (j : Nat) : ∀ x ∈ (R.take k).flatMap usedE ++ (e.2.2.take j).filterMap id, okP x := fun x hx => by
  rcases List.mem_append.1 hx with hx | hx
  · obtain ⟨e, he, h1⟩ := List.mem_flatMap.1 hx
    exact used_ok (h e (List.mem_of_mem_take he)).1 x h1
  · obtain ⟨q, hq, h1⟩ := List.mem_filterMap.1 hx
    exact used_ok (h e (List.mem_of_getElem? he)).1 x (List.mem_filterMap.2 ⟨q, List.mem_of_mem_take hq, h1⟩)
theorem all_all {w : World} {R : Sta} {ps : List Value} (h : StAt w R ps) :
    owner_all.C (stC R ps).toArray w (Ret fun v w' => (∃ (b : Nat) (es : Array MapEntry), v = .map (some b) ∧ w'.heap[b]? = some (.map es es.size) ∧ es.size = (nub (used R)).length) ∧ Ex w w') := by
  apply owner_all.ok
  unfold owner_all.main
  have hrow := h.row
  rintro b1 w1 rfl rfl b2 w2 rfl rfl
  have o1 := Owns.new (w := w) (stC R ps) ty_api_State
  have x1 := Ex.alloc w (.cells (stC R ps).toArray ty_api_State)
  generalize w.heap.size = b1 at o1 ⊢
  generalize w.alloc (.cells (stC R ps).toArray ty_api_State) = w1 at o1 x1 ⊢
  have x2 := Ex.alloc w1 (.map #[] 0)
  have hm := heap_alloc_at w1 (.map #[] 0)
  have hB : w1.heap.size ≤ (w1.alloc (.map #[] 0)).heap.size := x2.size
  have hwB := x1.size
  generalize hBe : w1.heap.size = B at hm hB hwB ⊢
  have m0 : MapAt (w1.alloc (.map #[] 0)) B B 0 [] := ⟨Nat.le_refl _, #[], hm, rfl, fun i e he => by simp at he, fun i j e e' he => by simp at he⟩
  generalize w1.alloc (.map #[] 0) = w2 at x2 hB m0 ⊢
  have h := h.ex (x1.trans x2)
  have o1 := o1.ex x2
  have hd : CellsAt w2 (⟨b1, 16, none⟩ : Addr) ps := by
    have := CellsAt.drop o1.cells 16
    rwa [Addr.add_lit, Nat.zero_add, h.drop] at this
  refine ⟨ps.toArray, by rw [List.size_toArray]; exact h.pls, hd, ?_⟩
  unfold owner_all.l1
  refine ⟨fun t3 t10 t11 w' => t3 = some B ∧ ps.toArray = t10 ∧ 0 ≤ t11 ∧ t11 ≤ 8 ∧ MapAt w' B B (t11.toNat * 1000) (nub ((R.take t11.toNat).flatMap usedE)) ∧ Kp w2 w' (fun i => B ≤ i), fun t3 t10 t11 w' => (8 - t11).toNat, ⟨rfl, rfl, by omega, by omega, m0, Kp.refl _ _⟩, ?_⟩
  rintro _ _ t11 w' ⟨rfl, rfl, h0, h8, hmap, hx⟩
  unfold owner_all.b1
  obtain ⟨k, rfl⟩ := Int.eq_ofNat_of_zero_le h0
  rw [Int.toNat_natCast] at hmap
  have fin : ∀ {w' : World}, Kp w2 w' (fun i => B ≤ i) → Ex w w' := fun hx => (x1.trans x2).then hx fun i hb => by omega
  refine cond_of (fun hlt => ?_) (fun hlt => ?_)
  · have hlt := of_decide_eq_true hlt
    have hk : k < 8 := by omega
    obtain ⟨e, he⟩ := h.get hk
    obtain ⟨p, c, hp, hcells0⟩ := hrow k e he
    have hcells := (hcells0.ex x1).ex x2
    obtain ⟨hok, hl, _, _⟩ := h.ok e (List.mem_of_getElem? he)
    refine chk_of (decide_eq_true h0) (chk_of (decide_eq_true hlt) ?_)
    rw [Int.toNat_natCast, Nat.mul_one]
    have e3 : ps.toArray[k]? = some (.slice p e.2.2.length c) := by rw [List.getElem?_toArray]; exact hp
    rw [e3]
    try dsimp only [dI_i64, dI_u8, dI_u16, dI_u32, dB_bool, dS_slice, dP_ptr, dT_tup, dA_agg, dStr_str, dF_f, dC_c, dM_m, optP_some, ga0, ga1, ga2, ga3, ga4, cond_true, cond_false, chk_true, Bool.not_true, Bool.not_false, Option.isNone_none, Option.isNone_some, List.toList_toArray]
    unfold owner_all.l2
    refine ⟨fun t3 t4 t10 t11 t15p t15n t15c t16 t17 w' => t3 = some B ∧ ps.toArray = t10 ∧ (k : Int) = t11 ∧ p = t15p ∧ e.2.2.length = t15n ∧ c = t15c ∧ (e.2.2.length : Int) = t16 ∧ 0 ≤ t17 ∧ t17 ≤ e.2.2.length ∧ MapAt w' B B (k * 1000 + t17.toNat) (nub ((R.take k).flatMap usedE ++ (e.2.2.take t17.toNat).filterMap id)) ∧ Kp w2 w' (fun i => B ≤ i),
      fun t3 t4 t10 t11 t15p t15n t15c t16 t17 w' => (e.2.2.length - t17).toNat, ⟨rfl, rfl, rfl, rfl, rfl, rfl, rfl, by omega, by omega, ?_, hx⟩, ?_⟩
    · have : (R.take k).flatMap usedE ++ (e.2.2.take (0 : Int).toNat).filterMap id = (R.take k).flatMap usedE := by simp
      rw [this]
      exact hmap.mono (Nat.le_add_right _ _)
    clear hmap hx
    rintro _ t4 _ _ _ _ _ _ t17 w' ⟨rfl, rfl, rfl, rfl, rfl, rfl, rfl, i0, i1, hmap, hx⟩
    unfold owner_all.b2
    obtain ⟨j, rfl⟩ := Int.eq_ofNat_of_zero_le i0
    rw [Int.toNat_natCast] at hmap
    have hBw : B ≤ w'.heap.size := by have := hx.size; omega
    refine cond_of (fun hc => ?_) (fun hc => ?_)
    · have hc := of_decide_eq_true hc
      have hj : j < e.2.2.length := by omega
      have hcw : CellsO w' p (e.2.2.map plV) := by
        have := hcells.kp hx (fun a ha hb => by
          subst ha
          have h1 := block_lt (hcells0.cell (j := j) (by rw [List.length_map]; exact hj))
          rw [add_block] at h1
          omega)
        exact this
      obtain ⟨a, rfl, r⟩ := pl_get hcw hj
      have hq := hok _ (List.getElem_mem hj)
      refine chk_of (decide_eq_true i0) (chk_of (decide_eq_true hc) ?_)
      try dsimp only [dI_i64, dI_u8, dI_u16, dI_u32, dB_bool, dS_slice, dP_ptr, dT_tup, dA_agg, dStr_str, dF_f, dC_c, dM_m, optP_some, ga0, ga1, ga2, ga3, ga4, cond_true, cond_false, chk_true, Bool.not_true, Bool.not_false, Option.isNone_none, Option.isNone_some, List.toList_toArray]
      rw [Int.toNat_natCast, Nat.mul_one]
      refine ⟨_, _, r, ?_⟩
      rw [empty_eq hq]
      have hnext : IntKind.i64.wrap ((j : Int) + 1) = ((j + 1 : Nat) : Int) := by rw [w64 (by omega) (by omega)]; rfl
      have htn : ((j + 1 : Nat) : Int).toNat = j + 1 := rfl
      cases hqe : e.2.2[j] with
      | none =>
        rw [cond_neg (by rfl), hnext]
        refine ⟨⟨rfl, rfl, rfl, rfl, rfl, rfl, rfl, by omega, by omega, ?_, hx⟩, by ((try dsimp only); omega)⟩
        rw [htn, take_pl hj, hqe]
        have : [(none : Pl)].filterMap id = [] := rfl
        rw [this, List.append_nil]
        exact hmap.mono (by omega)
      | some x =>
        rw [hqe] at hq
        rw [cond_pos (by rfl)]
        refine hmap.step (by omega) hBw hq (fun y hy => part_ok h.ok he j y ((mem_nub _ _).1 hy)) t4 j fun w6 k6 m6 => ?_
        rw [hnext]
        refine ⟨⟨rfl, rfl, rfl, rfl, rfl, rfl, rfl, by omega, by omega, ?_, hx.tr k6⟩, by ((try dsimp only); omega)⟩
        rw [htn, take_pl hj, hqe]
        have : [(some x : Pl)].filterMap id = [x] := rfl
        rw [this, ← List.append_assoc, nub_snoc]
        exact m6.mono (by omega)
    · have hc := of_decide_eq_false hc
      have hj : j = e.2.2.length := by omega
      rw [wrap_next hk]
      refine ⟨⟨rfl, rfl, by omega, by omega, ?_, hx⟩, by ((try dsimp only); omega)⟩
      have htn : ((k + 1 : Nat) : Int).toNat = k + 1 := rfl
      rw [htn, take_used he]
      rw [hj, List.take_length] at hmap
      exact hmap.mono (by omega)
  · have hlt := of_decide_eq_false hlt
    obtain rfl : k = 8 := by omega
    obtain ⟨_, es, h2, h3, _, _⟩ := hmap
    refine Ret.mk ⟨⟨B, es, rfl, h2, ?_⟩, fin hx⟩
    have := congrArg List.length h3
    rw [List.length_map, List.length_map, List.take_of_length_le (by rw [h.len]; omega)] at this
    simpa [used] using this

/-! ### The document's -/
def pls (U : List (Nat × Nat)) : List Value := U.map fun x => plV (some x)
theorem pls_one (U : List (Nat × Nat)) : ∀ z ∈ pls U, z.oneCell' = true := by
  intro z hz
  obtain ⟨q, _, rfl⟩ := List.mem_map.1 hz
  rfl
theorem pls_app (U V : List (Nat × Nat)) : pls U ++ pls V = pls (U ++ V) := by simp [pls]
theorem pls_len (U : List (Nat × Nat)) : (pls U).length = U.length := by simp [pls]
theorem part_len {R : Sta} (h : ∀ e ∈ R, okEnt e) (k : Nat) : ((R.take k).flatMap usedE).length ≤ k * 1000 := by
  induction k with
  | zero => simp
  | succ k ih =>
    by_cases hk : k < R.length
    · rw [take_used (List.getElem?_eq_getElem hk), List.length_append]
      have h1 := (h _ (List.getElem_mem hk)).2.1
      have h2 : (usedE R[k]).length ≤ R[k].2.2.length := List.length_filterMap_le _ _
      omega
    · rw [List.take_of_length_le (by omega)]
      rw [List.take_of_length_le (by omega)] at ih
      exact Nat.le_trans ih (Nat.mul_le_mul_right 1000 (Nat.le_succ k))
theorem refall_all {w : World} {R : Sta} {ps : List Value} (h : StAt w R ps) :
    stopcockref10_all.C (stC R ps).toArray w (Ret fun v w' => (∃ p c, v = .slice p (used R).length c ∧ Owns w' w.heap.size ty_complex128 1 p (used R).length c (pls (used R))) ∧ Ex w w') := by
  apply stopcockref10_all.ok
  unfold stopcockref10_all.main
  have hrow := h.row
  rintro b1 w1 rfl rfl
  have o1 := Owns.new (w := w) (stC R ps) ty_api_State
  have x1 := Ex.alloc w (.cells (stC R ps).toArray ty_api_State)
  generalize hb1 : w.heap.size = b1 at o1 ⊢
  generalize w.alloc (.cells (stC R ps).toArray ty_api_State) = w1 at o1 x1 ⊢
  rintro b2 w2 rfl rfl
  have o2 : Owns (w1.alloc (.cells #[] ty_complex128)) w1.heap.size ty_complex128 1 (some ⟨w1.heap.size, 0, none⟩) 0 0 (pls []) := Owns.alloc [] ty_complex128 1 0 rfl
  have x2 := Ex.alloc w1 (.cells #[] ty_complex128)
  have hB : w1.heap.size ≤ (w1.alloc (.cells #[] ty_complex128)).heap.size := x2.size
  have hwB := x1.size
  have hb1B : b1 < w1.heap.size := (o1.ge rfl).2
  generalize hBe : w1.heap.size = B at o2 hB hwB hb1B ⊢
  generalize w1.alloc (.cells #[] ty_complex128) = w2 at x2 hB o2 ⊢
  have h := h.ex (x1.trans x2)
  have o1 := o1.ex x2
  unfold stopcockref10_all.l1
  refine ⟨fun t1 t3p t3n t3c t4 w' => b1 = t1 ∧ 0 ≤ t4 ∧ t4 ≤ 8 ∧ t3n = ((R.take t4.toNat).flatMap usedE).length ∧ Owns w' B ty_complex128 1 t3p t3n t3c (pls ((R.take t4.toNat).flatMap usedE)) ∧ Kp w2 w' (fun i => B ≤ i), fun t1 t3p t3n t3c t4 w' => (8 - t4).toNat, ⟨rfl, by omega, by omega, rfl, o2, Kp.refl _ _⟩, ?_⟩
  rintro _ t3p t3n t3c t4 w' ⟨rfl, h0, h8, hn, hown, hx⟩
  unfold stopcockref10_all.b1
  obtain ⟨k, rfl⟩ := Int.eq_ofNat_of_zero_le h0
  rw [Int.toNat_natCast] at hn hown
  subst hn
  refine cond_of (fun hlt => ?_) (fun hlt => ?_)
  · have hlt := of_decide_eq_true hlt
    have hk : k < 8 := by omega
    obtain ⟨e, he⟩ := h.get hk
    obtain ⟨p, c, hp, hcells0⟩ := hrow k e he
    have hcells := (hcells0.ex x1).ex x2
    obtain ⟨hok, hl, _, _⟩ := h.ok e (List.mem_of_getElem? he)
    have hpl : ∀ {w'' : World}, Kp w2 w'' (fun i => B ≤ i) → w''.cell? ((⟨b1, 16, none⟩ : Addr).add (k * 1)) = some (.slice p e.2.2.length c) := fun hx => by
      rw [addr16]
      exact (o1.kp hx fun a ha hb => by cases ha; dsimp only at hb; omega).at (by rw [h.place, hp])
    unfold stopcockref10_all.l2
    refine ⟨fun t1 t3p t3n t3c t4 t5 w' => b1 = t1 ∧ (k : Int) = t4 ∧ 0 ≤ t5 ∧ t5 ≤ e.2.2.length ∧ t3n = ((R.take k).flatMap usedE ++ (e.2.2.take t5.toNat).filterMap id).length ∧ Owns w' B ty_complex128 1 t3p t3n t3c (pls ((R.take k).flatMap usedE ++ (e.2.2.take t5.toNat).filterMap id)) ∧ Kp w2 w' (fun i => B ≤ i),
      fun t1 t3p t3n t3c t4 t5 w' => (e.2.2.length - t5).toNat, ⟨rfl, rfl, by omega, by omega, ?_, ?_, hx⟩, ?_⟩
    · simp
    · have : (R.take k).flatMap usedE ++ (e.2.2.take (0 : Int).toNat).filterMap id = (R.take k).flatMap usedE := by simp
      rw [this]
      exact hown
    clear hown hx
    rintro _ t3p t3n t3c _ t5 w' ⟨rfl, rfl, i0, i1, hn, hown, hx⟩
    unfold stopcockref10_all.b2
    obtain ⟨j, rfl⟩ := Int.eq_ofNat_of_zero_le i0
    rw [Int.toNat_natCast] at hown hn
    subst hn
    have hBw : B ≤ w'.heap.size := by have := hx.size; omega
    refine chk_of (decide_eq_true h0) (chk_of (decide_eq_true hlt) ?_)
    rw [Int.toNat_natCast]
    refine ⟨p, e.2.2.length, c, hpl hx, ?_⟩
    refine cond_of (fun hc => ?_) (fun hc => ?_)
    · have hc := of_decide_eq_true hc
      have hj : j < e.2.2.length := by omega
      have hcw : CellsO w' p (e.2.2.map plV) := by
        have := hcells.kp hx (fun a ha hb => by
          subst ha
          have h1 := block_lt (hcells0.cell (j := j) (by rw [List.length_map]; exact hj))
          rw [add_block] at h1
          omega)
        exact this
      obtain ⟨a, rfl, r⟩ := pl_get hcw hj
      have hq := hok _ (List.getElem_mem hj)
      refine chk_of (decide_eq_true h0) (chk_of (decide_eq_true hlt) ⟨_, e.2.2.length, c, hpl hx, ?_⟩)
      refine chk_of (decide_eq_true i0) (chk_of (decide_eq_true hc) ?_)
      try dsimp only [dI_i64, dI_u8, dI_u16, dI_u32, dB_bool, dS_slice, dP_ptr, dT_tup, dA_agg, dStr_str, dF_f, dC_c, dM_m, optP_some, ga0, ga1, ga2, ga3, ga4, cond_true, cond_false, chk_true, Bool.not_true, Bool.not_false, Option.isNone_none, Option.isNone_some, List.toList_toArray]
      rw [Int.toNat_natCast, Nat.mul_one]
      refine ⟨_, _, r, ?_⟩
      rw [empty_eq hq]
      have hnext : IntKind.i64.wrap ((j : Int) + 1) = ((j + 1 : Nat) : Int) := by rw [w64 (by omega) (by omega)]; rfl
      have htn : ((j + 1 : Nat) : Int).toNat = j + 1 := rfl
      cases hqe : e.2.2[j] with
      | none =>
        rw [cond_neg (by rfl), hnext]
        have e1 : [(none : Pl)].filterMap id = [] := rfl
        refine ⟨⟨rfl, rfl, by omega, by omega, ?_, ?_, hx⟩, by ((try dsimp only); omega)⟩
        · rw [htn, take_pl hj, hqe, e1, List.append_nil]
        · rw [htn, take_pl hj, hqe, e1, List.append_nil]
          exact hown
      | some x =>
        rw [hqe] at hq r
        rw [cond_pos (by rfl)]
        refine chk_of (decide_eq_true h0) (chk_of (decide_eq_true hlt) ⟨_, e.2.2.length, c, hpl hx, ?_⟩)
        refine chk_of (decide_eq_true i0) (chk_of (decide_eq_true hc) ?_)
        try dsimp only [dI_i64, dI_u8, dI_u16, dI_u32, dB_bool, dS_slice, dP_ptr, dT_tup, dA_agg, dStr_str, dF_f, dC_c, dM_m, optP_some, ga0, ga1, ga2, ga3, ga4, cond_true, cond_false, chk_true, Bool.not_true, Bool.not_false, Option.isNone_none, Option.isNone_some, List.toList_toArray]
        refine ⟨_, _, r, ?_⟩
        rintro b3 w3 rfl rfl
        have o3 := Owns.new (w := w') (pls [x]) ty_complex128
        have x3 := Ex.alloc w' (.cells (pls [x]).toArray ty_complex128)
        have e3 : w'.alloc (.cells #[.complex .f64 (plR (some x)) (plM (some x))] ty_complex128) = w'.alloc (.cells (pls [x]).toArray ty_complex128) := rfl
        rw [e3]
        generalize w'.alloc (.cells (pls [x]).toArray ty_complex128) = w3 at o3 x3 ⊢
        have hlen : ((R.take k).flatMap usedE ++ (e.2.2.take j).filterMap id).length ≤ 10000 := by
          rw [List.length_append]
          have h1 := part_len h.ok k
          have h2 : ((e.2.2.take j).filterMap id).length ≤ (e.2.2.take j).length := List.length_filterMap_le _ _
          rw [List.length_take] at h2
          omega
        refine appP_own (B := B) (hown.ex x3) (by have := x3.size; omega) (pls [x]) o3.cells (by rfl) (pls_one _) rfl (by omega) (by omega) ?_
        intro p4 c4 w4 o4 k4
        rw [hnext, pls_app] at *
        have e1 : [(some x : Pl)].filterMap id = [x] := rfl
        refine ⟨⟨rfl, rfl, by omega, by omega, ?_, ?_, ?_⟩, by ((try dsimp only); omega)⟩
        · rw [htn, take_pl hj, hqe, e1]
          simp only [List.length_append, List.length_singleton, Nat.add_assoc]
        · rw [htn, take_pl hj, hqe, e1, ← List.append_assoc]
          exact o4
        · refine (hx.tr (x3.kp _)).tr (k4.mono fun i _ ⟨a, ha, hi⟩ => ?_)
          have := (hown.ge ha).1
          omega
    · have hc := of_decide_eq_false hc
      have hj : j = e.2.2.length := by omega
      rw [wrap_next hk]
      have htn : ((k + 1 : Nat) : Int).toNat = k + 1 := rfl
      rw [hj, List.take_length] at hown
      refine ⟨⟨rfl, by omega, by omega, ?_, ?_, hx⟩, by ((try dsimp only); omega)⟩
      · rw [htn, take_used he, hj, List.take_length]
        rfl
      · rw [htn, take_used he, hj, List.take_length]
        exact hown
  · have hlt := of_decide_eq_false hlt
    obtain rfl : k = 8 := by omega
    rw [List.take_of_length_le (by rw [h.len]; omega)] at hown ⊢
    exact Ret.mk ⟨⟨t3p, t3c, rfl, hown.lower (by omega)⟩, (x1.trans x2).then hx fun i hb => by omega⟩
end Go.Proofs.Ythgmebhkbbehmaa.G
namespace Go.Proofs.Ythgmebhkbbehmaa.G
open Go.Dec Go.RowKit
set_option linter.unusedVariables false
set_option linter.unusedSimpArgs false

/-! ### Lists without doubles -/
theorem len_le_of_sub {α : Type} : ∀ (l m : List α), l.Nodup → (∀ x ∈ l, x ∈ m) → l.length ≤ m.length
  | [], m, _, _ => Nat.zero_le _
  | a :: l, m, hn, hs => by
    obtain ⟨s, t, rfl⟩ := List.append_of_mem (hs a (List.mem_cons_self ..))
    have hn' := List.nodup_cons.1 hn
    have := len_le_of_sub l (s ++ t) hn'.2 fun x hx => by
      have h1 := hs x (List.mem_cons_of_mem _ hx)
      have hne : x ≠ a := fun h => hn'.1 (h ▸ hx)
      rcases List.mem_append.1 h1 with h | h
      · exact List.mem_append.2 (.inl h)
      · rcases List.mem_cons.1 h with h | h
        · exact absurd h hne
        · exact List.mem_append.2 (.inr h)
    simp only [List.length_append, List.length_cons] at this ⊢
    omega
def fl16 (x : Nat × Nat) : Nat := x.1 * 16 + x.2
def hasN (V : List (Nat × Nat)) (n : Nat) : Bool := V.any fun x => fl16 x == n
def cntTo (V : List (Nat × Nat)) (k : Nat) : Nat := ((List.range k).filter (hasN V)).length
theorem fl16_inj {x y : Nat × Nat} (hx : okP x) (hy : okP y) (h : fl16 x = fl16 y) : x = y := by
  obtain ⟨a, b⟩ := x
  obtain ⟨c, d⟩ := y
  unfold fl16 at h
  have h1 := hx.2
  have h2 := hy.2
  dsimp only at h h1 h2
  have : a = c := by omega
  subst this
  have : b = d := by omega
  subst this
  rfl
theorem hasN_true {V : List (Nat × Nat)} {n : Nat} : hasN V n = true ↔ ∃ x ∈ V, fl16 x = n := by simp [hasN]
theorem cnt_nub {U : List (Nat × Nat)} (hU : ∀ x ∈ U, okP x) : cntTo U 384 = (nub U).length := by
  unfold cntTo
  have hN : ∀ x ∈ nub U, okP x := fun x hx => hU x ((mem_nub U x).1 hx)
  have n1 : ((nub U).map fl16).Nodup := by
    refine List.Pairwise.map _ ?_ (List.Pairwise.imp_of_mem (R := fun a b => a ≠ b) (S := fun a b => fl16 a ≠ fl16 b) (fun ha hb h e => h (fl16_inj (hN _ ha) (hN _ hb) e)) (nub_nodup U))
    exact fun a b h => h
  have n2 : ((List.range 384).filter (hasN U)).Nodup := List.Pairwise.filter _ List.nodup_range
  have l1 := len_le_of_sub _ ((List.range 384).filter (hasN U)) n1 fun n hn => by
    obtain ⟨x, hx, rfl⟩ := List.mem_map.1 hn
    have ho := hN x hx
    refine List.mem_filter.2 ⟨List.mem_range.2 ?_, hasN_true.2 ⟨x, (mem_nub U x).1 hx, rfl⟩⟩
    have h1 := ho.1
    have h2 := ho.2
    unfold fl16
    omega
  have l2 := len_le_of_sub _ ((nub U).map fl16) n2 fun n hn => by
    obtain ⟨x, hx, rfl⟩ := hasN_true.1 (List.mem_filter.1 hn).2
    exact List.mem_map.2 ⟨x, (mem_nub U x).2 hx, rfl⟩
  rw [List.length_map] at l1 l2
  omega
theorem cnt_succ (V : List (Nat × Nat)) (k : Nat) : cntTo V (k + 1) = cntTo V k + (if hasN V k then 1 else 0) := by
  unfold cntTo
  rw [List.range_succ, List.filter_append, List.length_append]
  cases h : hasN V k <;> simp [h]

/-! ### Sort -/
def flags (V : List (Nat × Nat)) : List Value := (List.range 384).map fun n => .bool (hasN V n)
theorem flags_len (V : List (Nat × Nat)) : (flags V).length = 384 := by simp [flags]
theorem flags_get (V : List (Nat × Nat)) {n : Nat} (h : n < 384) : (flags V)[n]? = some (.bool (hasN V n)) := by simp [flags, h]
theorem flags_nil : (flags []) = List.replicate 384 (Value.bool false) := by
  apply List.ext_getElem?
  intro n
  by_cases h : n < 384
  · rw [flags_get _ h, List.getElem?_replicate, if_pos h]
    rfl
  · rw [List.getElem?_eq_none (by rw [flags_len]; omega), List.getElem?_eq_none (by rw [List.length_replicate]; omega)]
theorem flags_set (V : List (Nat × Nat)) (x : Nat × Nat) (hx : fl16 x < 384) : (flags V).set (fl16 x) (.bool true) = flags (V ++ [x]) := by
  apply List.ext_getElem?
  intro n
  by_cases h : n < 384
  · rw [flags_get _ h, List.getElem?_set, flags_get _ h, flags_len]
    have e : hasN (V ++ [x]) n = (hasN V n || fl16 x == n) := by simp [hasN, List.any_append]
    rw [e]
    by_cases h2 : fl16 x = n
    · rw [if_pos h2, if_pos hx]
      simp [h2]
    · rw [if_neg h2]
      simp [h2]
  · rw [List.getElem?_eq_none (by rw [List.length_set, flags_len]; omega), List.getElem?_eq_none (by rw [flags_len]; omega)]
theorem flags_made : madeCells #[Value.bool false] (384 * 1) = (flags []).toArray := by
  have := madeCells_rep 1 (384 * 1) (Value.bool false) (by omega)
  rw [flags_nil]
  exact this
theorem Make_spec (a b : Nat) (w : World) : stopcockref01_Make.C a b w (Ret fun v w' => v = .complex .f64 (nr a) (nr b) ∧ w' = w) := by
  apply stopcockref01_Make.ok
  unfold stopcockref01_Make.main
  exact Ret.mk ⟨rfl, rfl⟩
theorem fl16_lt {x : Nat × Nat} (h : okP x) : fl16 x < 384 := by
  have h1 := h.1
  have h2 := h.2
  unfold fl16
  omega
set_option maxRecDepth 8000 in
theorem Sort_spec (p : Option Addr) (c : Nat) (U : List (Nat × Nat)) (w : World) (hc : CellsO w p (pls U)) (hU : ∀ x ∈ U, okP x) (hl : U.length ≤ 4096) :
    stopcockref01_Sort.C p U.length c w (Ret fun v w' => (∃ q d, v = .tuple #[.slice q (nub U).length d, .int .i64 0]) ∧ Ex w w') := by
  apply stopcockref01_Sort.ok
  unfold stopcockref01_Sort.main
  rw [condd_neg (by omega)]
  rintro b1 w1 rfl rfl
  rw [flags_made]
  have o1 := Owns.alloc (w := w) (flags []) ty_bool 1 384 (by rw [flags_len])
  have x1 := Ex.alloc w (.cells (flags []).toArray ty_bool)
  have hb1 : w.heap.size ≤ w.heap.size := Nat.le_refl _
  generalize hb1e : w.heap.size = b1 at o1 hb1 ⊢
  have hb1 : w.heap.size ≤ b1 := by omega
  generalize w.alloc (.cells (flags []).toArray ty_bool) = w1 at o1 x1 ⊢
  unfold stopcockref01_Sort.l1
  refine ⟨fun t0p t0n t0c t4p t4n t4c t5 w' => p = t0p ∧ U.length = t0n ∧ t4p = some ⟨b1, 0, none⟩ ∧ t4n = 384 ∧ t4c = 384 ∧ 0 ≤ t5 ∧ t5 ≤ U.length ∧ Owns w' b1 ty_bool 1 (some ⟨b1, 0, none⟩) 384 384 (flags (U.take t5.toNat)) ∧ Ex w w', fun t0p t0n t0c t4p t4n t4c t5 w' => (U.length - t5).toNat, ⟨rfl, rfl, rfl, rfl, rfl, by omega, by omega, o1, x1⟩, ?_⟩
  rintro _ _ t0c _ _ _ t5 w' ⟨rfl, rfl, rfl, rfl, rfl, h0, h1, own, hx⟩
  unfold stopcockref01_Sort.b1
  obtain ⟨j, rfl⟩ := Int.eq_ofNat_of_zero_le h0
  rw [Int.toNat_natCast] at own
  refine cond_of (fun h => ?_) (fun h => ?_)
  · have hlt := of_decide_eq_true h
    have hj : j < U.length := by omega
    have hok := hU _ (List.getElem_mem hj)
    obtain ⟨a, rfl, r⟩ := (hc.ex hx).many (j := j) (v := plV (some U[j])) (by unfold pls; rw [List.getElem?_map, List.getElem?_eq_getElem hj]; rfl)
    refine chk_of (decide_eq_true h0) (chk_of (decide_eq_true hlt) ?_)
    try dsimp only [dI_i64, dI_u8, dI_u16, dI_u32, dB_bool, dS_slice, dP_ptr, dT_tup, dA_agg, dStr_str, dF_f, dC_c, dM_m, optP_some, ga0, ga1, ga2, ga3, ga4, cond_true, cond_false, chk_true, Bool.not_true, Bool.not_false, Option.isNone_none, Option.isNone_some, List.toList_toArray]
    rw [Int.toNat_natCast, Nat.mul_one]
    refine ⟨_, _, r, ?_⟩
    refine callP.use (refFlat_spec (some U[j]) hok 16 (by omega) w') ?_
    rintro _ _ ⟨rfl, rfl⟩
    have hlt16 : ((U[j].2 : Nat) : Int) < 16 := by have := hok.2; omega
    rw [flt_some, if_pos hlt16]
    have e : (Cel.v64 [(U[j].1 : Int) * 16 + U[j].2, 0]).toArray = #[.int .i64 ((fl16 U[j] : Nat) : Int), .int .i64 0] := by
      have : (U[j].1 : Int) * 16 + U[j].2 = ((fl16 U[j] : Nat) : Int) := by unfold fl16; omega
      rw [this]
      rfl
    rw [e]
    try dsimp only [dI_i64, dI_u8, dI_u16, dI_u32, dB_bool, dS_slice, dP_ptr, dT_tup, dA_agg, dStr_str, dF_f, dC_c, dM_m, optP_some, ga0, ga1, ga2, ga3, ga4, cond_true, cond_false, chk_true, Bool.not_true, Bool.not_false, Option.isNone_none, Option.isNone_some, List.toList_toArray]
    have hf := fl16_lt hok
    rw [cond_neg (by rfl)]
    refine chk_of (decide_eq_true (by omega)) (chk_of (decide_eq_true (by omega)) ?_)
    rw [Int.toNat_natCast, Nat.mul_one, Addr.add_lit, Nat.zero_add]
    refine own.put1 (j := fl16 U[j]) (by omega) (by rfl) fun w4 k4 o4 => ?_
    rw [flags_set _ _ hf] at o4
    have hnext : IntKind.i64.wrap ((j : Int) + 1) = ((j + 1 : Nat) : Int) := by rw [w64 (by omega) (by omega)]; rfl
    rw [hnext]
    refine ⟨⟨rfl, rfl, rfl, rfl, rfl, by omega, by omega, ?_, hx.then k4 fun i hi => by omega⟩, by ((try dsimp only); omega)⟩
    have : ((j + 1 : Nat) : Int).toNat = j + 1 := rfl
    rw [this, List.take_succ_eq_append_getElem hj]
    exact o4
  · have h := of_decide_eq_false h
    have : j = U.length := by omega
    subst this
    rw [List.take_length] at own
    unfold stopcockref01_Sort.k1
    rintro b2 w5 rfl rfl
    have o2 : Owns (w'.alloc (.cells #[] ty_complex128)) w'.heap.size ty_complex128 1 (some ⟨w'.heap.size, 0, none⟩) 0 0 (pls []) := Owns.alloc [] ty_complex128 1 0 rfl
    have x2 := Ex.alloc w' (.cells #[] ty_complex128)
    have hb2 : b1 < w'.heap.size := (own.ge rfl).2
    have hB := x2.size
    have hxs := hx.size
    generalize hBe : w'.heap.size = B at o2 hb2 hB hxs ⊢
    have x2 := hx.trans x2
    have own2 := own.ex (Ex.alloc w' (.cells #[] ty_complex128))
    generalize w'.alloc (.cells #[] ty_complex128) = w5 at o2 x2 hB own2 ⊢
    unfold stopcockref01_Sort.l2
    refine ⟨fun t4p t4n t4c t8p t8n t8c t9 w'' => t4p = some ⟨b1, 0, none⟩ ∧ t4n = 384 ∧ 0 ≤ t9 ∧ t9 ≤ 384 ∧ t8n = cntTo U t9.toNat ∧ (∃ ys, Owns w'' B ty_complex128 1 t8p t8n t8c (pls ys)) ∧ Kp w5 w'' (fun i => B ≤ i), fun t4p t4n t4c t8p t8n t8c t9 w'' => (384 - t9).toNat, ⟨rfl, rfl, by omega, by omega, rfl, ⟨[], o2⟩, Kp.refl _ _⟩, ?_⟩
    rintro _ _ t4c t8p t8n t8c t9 w'' ⟨rfl, rfl, i0, i1, hn, ⟨ys, oy⟩, ky⟩
    unfold stopcockref01_Sort.b2
    obtain ⟨n, rfl⟩ := Int.eq_ofNat_of_zero_le i0
    rw [Int.toNat_natCast] at hn
    refine cond_of (fun h => ?_) (fun h => ?_)
    · have hlt := of_decide_eq_true h
      have hn4 : n < 384 := by omega
      have own3 := own2.kp ky (fun a ha hb => by cases ha; dsimp only at hb; omega)
      refine chk_of (decide_eq_true i0) (chk_of (decide_eq_true hlt) ?_)
      try dsimp only [dI_i64, dI_u8, dI_u16, dI_u32, dB_bool, dS_slice, dP_ptr, dT_tup, dA_agg, dStr_str, dF_f, dC_c, dM_m, optP_some, ga0, ga1, ga2, ga3, ga4, cond_true, cond_false, chk_true, Bool.not_true, Bool.not_false, Option.isNone_none, Option.isNone_some, List.toList_toArray]
      rw [Int.toNat_natCast, Nat.mul_one, Addr.add_lit, Nat.zero_add]
      refine ⟨hasN U n, own3.at (flags_get U hn4), ?_⟩
      have hnext : IntKind.i64.wrap ((n : Int) + 1) = ((n + 1 : Nat) : Int) := by rw [w64 (by omega) (by omega)]; rfl
      have htn : ((n + 1 : Nat) : Int).toNat = n + 1 := rfl
      rw [hnext]
      refine cond_of (fun hh => ?_) (fun hh => ?_)
      · have e1 : Int.tdiv (n : Int) 16 = ((n / 16 : Nat) : Int) := rfl
        have e2 : Int.tmod (n : Int) 16 = ((n % 16 : Nat) : Int) := rfl
        rw [e1, e2, w64 (by omega) (by omega)]
        refine callP.use (Make_spec (n / 16) (n % 16) w'') ?_
        rintro _ w6 ⟨rfl, e6⟩
        obtain rfl := e6.symm
        try dsimp only [dI_i64, dI_u8, dI_u16, dI_u32, dB_bool, dS_slice, dP_ptr, dT_tup, dA_agg, dStr_str, dF_f, dC_c, dM_m, optP_some, ga0, ga1, ga2, ga3, ga4, cond_true, cond_false, chk_true, Bool.not_true, Bool.not_false, Option.isNone_none, Option.isNone_some, List.toList_toArray]
        rintro b4 w8 rfl rfl
        have o8 := Owns.new (w := w'') (pls [(n / 16, n % 16)]) ty_complex128
        have x8 := Ex.alloc w'' (.cells (pls [(n / 16, n % 16)]).toArray ty_complex128)
        have e8 : w''.alloc (.cells #[.complex .f64 (nr (n / 16)) (nr (n % 16))] ty_complex128) = w''.alloc (.cells (pls [(n / 16, n % 16)]).toArray ty_complex128) := rfl
        rw [e8]
        generalize w''.alloc (.cells (pls [(n / 16, n % 16)]).toArray ty_complex128) = w8 at o8 x8 ⊢
        have hcn : t8n ≤ 384 := by
          rw [hn]
          unfold cntTo
          refine Nat.le_trans (List.length_filter_le _ _) ?_
          rw [List.length_range]
          omega
        refine appP_own (B := B) (oy.ex x8) (by have := ky.size; have := x8.size; omega) (pls [(n / 16, n % 16)]) o8.cells (by rfl) (pls_one _) rfl (by omega) (by omega) ?_
        intro p9 c9 w9 o9 k9
        rw [pls_app] at o9
        refine ⟨⟨rfl, rfl, by omega, by omega, ?_, ⟨_, o9⟩, ?_⟩, by ((try dsimp only); omega)⟩
        · rw [htn, cnt_succ, if_pos hh, hn]
        · refine (ky.tr (x8.kp _)).tr (k9.mono fun i _ ⟨a, ha, hi⟩ => ?_)
          have := (oy.ge ha).1
          omega
      · refine ⟨⟨rfl, rfl, by omega, by omega, ?_, ⟨_, oy⟩, ky⟩, by ((try dsimp only); omega)⟩
        rw [htn, cnt_succ, hh, hn]
        rfl
    · have h := of_decide_eq_false h
      have : n = 384 := by omega
      subst this
      refine Ret.mk ⟨⟨t8p, t8c, ?_⟩, x2.then ky fun i hi => by omega⟩
      rw [hn, cnt_nub hU]
theorem Places_all {w : World} {R : Sta} {ps : List Value} (h : StAt w R ps) (hl : (used R).length ≤ 4096) : stopcockref10_Places.C (stC R ps).toArray w (Ret fun v w' => (∃ q d, v = .slice q (nub (used R)).length d) ∧ Ex w w') := by
  apply stopcockref10_Places.ok
  unfold stopcockref10_Places.main
  rintro b1 w1 rfl rfl
  have o1 := Owns.new (w := w) (stC R ps) ty_api_State
  have x1 := Ex.alloc w (.cells (stC R ps).toArray ty_api_State)
  generalize w.heap.size = b1 at o1 ⊢
  generalize w.alloc (.cells (stC R ps).toArray ty_api_State) = w1 at o1 x1 ⊢
  have h := h.ex x1
  refine ⟨(stC R ps).toArray, by rw [List.size_toArray]; exact h.clen, o1.cells, ?_⟩
  refine callP.use (refall_all h) ?_
  rintro _ w2 ⟨⟨p, c, rfl, o2⟩, x2⟩
  try dsimp only [dI_i64, dI_u8, dI_u16, dI_u32, dB_bool, dS_slice, dP_ptr, dT_tup, dA_agg, dStr_str, dF_f, dC_c, dM_m, optP_some, ga0, ga1, ga2, ga3, ga4, cond_true, cond_false, chk_true, Bool.not_true, Bool.not_false, Option.isNone_none, Option.isNone_some, List.toList_toArray]
  refine callP.use (Sort_spec p c (used R) w2 o2.cells (used_ok' h.ok) hl) ?_
  rintro _ w4 ⟨⟨q, d, rfl⟩, x4⟩
  try dsimp only [dI_i64, dI_u8, dI_u16, dI_u32, dB_bool, dS_slice, dP_ptr, dT_tup, dA_agg, dStr_str, dF_f, dC_c, dM_m, optP_some, ga0, ga1, ga2, ga3, ga4, cond_true, cond_false, chk_true, Bool.not_true, Bool.not_false, Option.isNone_none, Option.isNone_some, List.toList_toArray]
  exact Ret.mk ⟨⟨q, d, rfl⟩, x1.trans (x2.trans x4)⟩

/-! ### Within -/
theorem out_used {s k : Int} {R : Sta} : (∀ e ∈ R, e.2.2.any (outPl s k) = false) ↔ ∀ x ∈ used R, inPl s k (some x) = true := by
  constructor
  · intro h x hx
    obtain ⟨e, he, hx⟩ := List.mem_flatMap.1 hx
    obtain ⟨q, hq, e1⟩ := List.mem_filterMap.1 hx
    have := List.any_eq_false.1 (h e he) q hq
    cases q with
    | none => cases e1
    | some y =>
      cases e1
      simpa [outPl] using this
  · intro h e he
    refine List.any_eq_false.2 fun q hq => ?_
    cases q with
    | none => simp [outPl]
    | some y =>
      have := h y (List.mem_flatMap.2 ⟨e, he, List.mem_filterMap.2 ⟨_, hq, rfl⟩⟩)
      simp [outPl, this]
theorem used_le {R : Sta} (h8 : R.length = 8) (h : SndR R) : (used R).length ≤ 256 := by
  have key : ∀ k, k ≤ 8 → ((R.take k).flatMap usedE).length ≤ k * 32 := by
    intro k
    induction k with
    | zero => intro _; simp
    | succ k ih =>
      intro hk
      have hk' : k < R.length := by omega
      rw [take_used (List.getElem?_eq_getElem hk'), List.length_append]
      have h1 := h _ (List.getElem_mem hk')
      have h2 : (usedE R[k]).length ≤ R[k].2.2.length := List.length_filterMap_le _ _
      have h3 := ih (by omega)
      have h4 : R[k].2.2.length ≤ 32 := by
        by_cases h0 : R[k].1 = 0
        · have := h1.2.2.1 h0
          have := h1.1
          omega
        · have := h1.2.2.2 h0
          have := h1.1
          omega
      omega
  have := key 8 (Nat.le_refl _)
  rw [List.take_of_length_le (by omega)] at this
  exact this
theorem refWithin_all {w : World} {R : Sta} {ps : List Value} (h : StAt w R ps) (s m : Int) :
    stopcockref10_Within.C (stC R ps).toArray s m w (Ret fun v w' => (∃ e, v = .int .i64 e ∧ (e = 0 ↔ WithR s m R)) ∧ Ex w w') := by
  apply stopcockref10_Within.ok
  unfold stopcockref10_Within.main
  rintro b1 w1 rfl rfl b2 w2 rfl rfl
  have o1 := Owns.new (w := w) (stC R ps) ty_api_State
  have x1 := Ex.alloc w (.cells (stC R ps).toArray ty_api_State)
  generalize w.heap.size = b1 at o1 ⊢
  generalize w.alloc (.cells (stC R ps).toArray ty_api_State) = w1 at o1 x1 ⊢
  have o2 := Owns.new (w := w1) (two s m) ty_api_Plat
  have x2 := Ex.alloc w1 (.cells (two s m).toArray ty_api_Plat)
  have e2 : w1.alloc (.cells #[.int .i64 s, .int .i64 m] ty_api_Plat) = w1.alloc (.cells (two s m).toArray ty_api_Plat) := rfl
  rw [e2]
  generalize w1.heap.size = b2 at o2 ⊢
  generalize w1.alloc (.cells (two s m).toArray ty_api_Plat) = w2 at o2 x2 ⊢
  have o1 := o1.ex x2
  have hx2 := x1.trans x2
  have h := h.ex hx2
  refine ⟨(two s m).toArray, rfl, o2.cells, ?_⟩
  refine callP.use (May_all s m _) ?_
  rintro _ w3 ⟨rfl, x3⟩
  try dsimp only [dI_i64, dI_u8, dI_u16, dI_u32, dB_bool, dS_slice, dP_ptr, dT_tup, dA_agg, dStr_str, dF_f, dC_c, dM_m, optP_some, ga0, ga1, ga2, ga3, ga4, cond_true, cond_false, chk_true, Bool.not_true, Bool.not_false, Option.isNone_none, Option.isNone_some, List.toList_toArray]
  cases hm : may s m with
  | false =>
    rw [cond_pos (by rfl)]
    refine Ret.mk ⟨⟨1, rfl, ?_⟩, hx2.trans x3⟩
    constructor
    · intro h; cases h
    · intro h; rw [h.1] at hm; cases hm
  | true =>
  have hh := may_iff.1 hm
  rw [cond_neg (by rfl)]
  have h := h.ex x3
  refine ⟨(stC R ps).toArray, by rw [List.size_toArray]; exact h.clen, (o1.ex x3).cells, ?_⟩
  refine callP.use (refSound_all h) ?_
  rintro _ w5 ⟨rfl, x5⟩
  try dsimp only [dI_i64, dI_u8, dI_u16, dI_u32, dB_bool, dS_slice, dP_ptr, dT_tup, dA_agg, dStr_str, dF_f, dC_c, dM_m, optP_some, ga0, ga1, ga2, ga3, ga4, cond_true, cond_false, chk_true, Bool.not_true, Bool.not_false, Option.isNone_none, Option.isNone_some, List.toList_toArray]
  have hx5 := hx2.trans (x3.trans x5)
  refine cond_of (fun hs => ?_) (fun hs => ?_)
  · have hs : ¬ SndR R := by simpa using hs
    refine Ret.mk ⟨⟨2, rfl, ?_⟩, hx5⟩
    constructor
    · intro h; cases h
    · intro h; exact absurd h.2.1 hs
  have hs : SndR R := by simpa using hs
  have h := h.ex x5
  have o2 := (o2.ex x3).ex x5
  refine ⟨(stC R ps).toArray, by rw [List.size_toArray]; exact h.clen, (o1.ex (x3.trans x5)).cells, ?_⟩
  refine callP.use (refall_all h) ?_
  rintro _ w7 ⟨⟨p, c, rfl, o7⟩, x7⟩
  try dsimp only [dI_i64, dI_u8, dI_u16, dI_u32, dB_bool, dS_slice, dP_ptr, dT_tup, dA_agg, dStr_str, dF_f, dC_c, dM_m, optP_some, ga0, ga1, ga2, ga3, ga4, cond_true, cond_false, chk_true, Bool.not_true, Bool.not_false, Option.isNone_none, Option.isNone_some, List.toList_toArray]
  have hul := used_le h.len hs
  have hok := used_ok' h.ok
  have o2 := o2.ex x7
  unfold stopcockref10_Within.l1
  refine ⟨fun t3 t5p t5n t5c t6 w' => b2 = t3 ∧ p = t5p ∧ (used R).length = t5n ∧ 0 ≤ t6 ∧ t6 ≤ (used R).length ∧ (∀ x ∈ (used R).take t6.toNat, inPl s m (some x) = true) ∧ Ex w7 w', fun t3 t5p t5n t5c t6 w' => ((used R).length - t6).toNat, ⟨rfl, rfl, rfl, by omega, by omega, fun x hx => by simp at hx, Ex.refl _⟩, ?_⟩
  rintro _ _ _ t5c t6 w' ⟨rfl, rfl, rfl, h0, h1, hall, hx⟩
  unfold stopcockref10_Within.b1
  obtain ⟨j, rfl⟩ := Int.eq_ofNat_of_zero_le h0
  rw [Int.toNat_natCast] at hall
  have fin := hx5.trans (x7.trans hx)
  refine cond_of (fun hlt => ?_) (fun hlt => ?_)
  · have hlt := of_decide_eq_true hlt
    have hj : j < (used R).length := by omega
    have xd := hx.trans (Ex.drew w')
    refine ⟨(two s m).toArray, rfl, (o2.ex xd).cells, chk_of (decide_eq_true h0) (chk_of (decide_eq_true hlt) ?_)⟩
    obtain ⟨a, rfl, r⟩ := (o7.ex xd).cells.many (j := j) (v := plV (some (used R)[j])) (by unfold pls; rw [List.getElem?_map, List.getElem?_eq_getElem hj]; rfl)
    try dsimp only [dI_i64, dI_u8, dI_u16, dI_u32, dB_bool, dS_slice, dP_ptr, dT_tup, dA_agg, dStr_str, dF_f, dC_c, dM_m, optP_some, ga0, ga1, ga2, ga3, ga4, cond_true, cond_false, chk_true, Bool.not_true, Bool.not_false, Option.isNone_none, Option.isNone_some, List.toList_toArray]
    rw [Int.toNat_natCast, Nat.mul_one]
    refine ⟨_, _, r, ?_⟩
    refine callP.use (refAt_all s m hh (some (used R)[j]) (hok _ (List.getElem_mem hj)) w'.drew) ?_
    rintro _ w9 ⟨⟨x, e, rfl, he⟩, x9⟩
    try dsimp only [dI_i64, dI_u8, dI_u16, dI_u32, dB_bool, dS_slice, dP_ptr, dT_tup, dA_agg, dStr_str, dF_f, dC_c, dM_m, optP_some, ga0, ga1, ga2, ga3, ga4, cond_true, cond_false, chk_true, Bool.not_true, Bool.not_false, Option.isNone_none, Option.isNone_some, List.toList_toArray]
    rw [he]
    refine cond_of (fun ha => ?_) (fun ha => ?_)
    · refine Ret.mk ⟨⟨5, rfl, ?_⟩, fin.trans ((Ex.drew w').trans x9)⟩
      constructor
      · intro h; cases h
      · intro h
        have := out_used.1 h.2.2 _ (List.getElem_mem hj)
        rw [this] at ha
        cases ha
    · have ha : inPl s m (some (used R)[j]) = true := by simpa using ha
      have hnext : IntKind.i64.wrap ((j : Int) + 1) = ((j + 1 : Nat) : Int) := by rw [w64 (by omega) (by omega)]; rfl
      rw [hnext]
      refine ⟨⟨rfl, rfl, rfl, by omega, by omega, ?_, xd.trans x9⟩, by ((try dsimp only); omega)⟩
      intro x hx
      have : ((j + 1 : Nat) : Int).toNat = j + 1 := rfl
      rw [this, List.take_succ_eq_append_getElem hj] at hx
      rcases List.mem_append.1 hx with hx | hx
      · exact hall x hx
      · rw [List.mem_singleton] at hx
        rw [hx]
        exact ha
  · have hlt := of_decide_eq_false hlt
    obtain rfl : j = (used R).length := by omega
    rw [List.take_length] at hall
    refine Ret.mk ⟨⟨0, rfl, ?_⟩, fin⟩
    exact ⟨fun _ => ⟨hm, hs, out_used.2 hall⟩, fun _ => rfl⟩

/-! ### Fit -/
def FitR (s k : Int) (R : Sta) : Prop := WithR s k R ∧ ((nub (used R)).length : Int) ≤ (s - 4) * k
theorem Fit_all {w : World} {R : Sta} {ps : List Value} (h : StAt w R ps) (s m : Int) :
    owner_Fit.C (stC R ps).toArray s m w (Ret fun v w' => (∃ e, v = .int .i64 e ∧ (e = 0 ↔ FitR s m R)) ∧ Ex w w') := by
  apply owner_Fit.ok
  unfold owner_Fit.main
  rintro b1 w1 rfl rfl b2 w2 rfl rfl
  have o1 := Owns.new (w := w) (stC R ps) ty_api_State
  have x1 := Ex.alloc w (.cells (stC R ps).toArray ty_api_State)
  generalize w.heap.size = b1 at o1 ⊢
  generalize w.alloc (.cells (stC R ps).toArray ty_api_State) = w1 at o1 x1 ⊢
  have o2 := Owns.new (w := w1) (two s m) ty_api_Plat
  have x2 := Ex.alloc w1 (.cells (two s m).toArray ty_api_Plat)
  have e2 : w1.alloc (.cells #[.int .i64 s, .int .i64 m] ty_api_Plat) = w1.alloc (.cells (two s m).toArray ty_api_Plat) := rfl
  rw [e2]
  generalize w1.heap.size = b2 at o2 ⊢
  generalize w1.alloc (.cells (two s m).toArray ty_api_Plat) = w2 at o2 x2 ⊢
  have o1 := o1.ex x2
  have hx2 := x1.trans x2
  have h := h.ex hx2
  refine ⟨(stC R ps).toArray, by rw [List.size_toArray]; exact h.clen, o1.cells, (two s m).toArray, rfl, o2.cells, ?_⟩
  refine callP.use (Within_all h s m) ?_
  rintro _ w3 ⟨⟨e, rfl, he⟩, x3⟩
  try dsimp only [dI_i64, dI_u8, dI_u16, dI_u32, dB_bool, dS_slice, dP_ptr, dT_tup, dA_agg, dStr_str, dF_f, dC_c, dM_m, optP_some, ga0, ga1, ga2, ga3, ga4, cond_true, cond_false, chk_true, Bool.not_true, Bool.not_false, Option.isNone_none, Option.isNone_some, List.toList_toArray]
  refine cond_of (fun hc => ?_) (fun hc => ?_)
  · have hc : ¬ e = 0 := by simpa using hc
    exact Ret.mk ⟨⟨e, rfl, fun h => absurd h hc, fun h => he.2 h.1⟩, hx2.trans x3⟩
  have hc : e = 0 := by simpa using hc
  have hW := he.1 hc
  have hh := may_iff.1 hW.1
  refine ⟨(two s m).toArray, rfl, (o2.ex x3).cells, ?_⟩
  refine callP.use (Capacity_all s m hh w3) ?_
  rintro _ w5 ⟨rfl, x5⟩
  try dsimp only [dI_i64, dI_u8, dI_u16, dI_u32, dB_bool, dS_slice, dP_ptr, dT_tup, dA_agg, dStr_str, dF_f, dC_c, dM_m, optP_some, ga0, ga1, ga2, ga3, ga4, cond_true, cond_false, chk_true, Bool.not_true, Bool.not_false, Option.isNone_none, Option.isNone_some, List.toList_toArray]
  have x35 := x3.trans x5
  have h := h.ex x35
  refine ⟨(stC R ps).toArray, by rw [List.size_toArray]; exact h.clen, (o1.ex x35).cells, ?_⟩
  refine callP.use (all_all h) ?_
  rintro _ w7 ⟨⟨b, es, rfl, hb, hes⟩, x7⟩
  try dsimp only [dI_i64, dI_u8, dI_u16, dI_u32, dB_bool, dS_slice, dP_ptr, dT_tup, dA_agg, dStr_str, dF_f, dC_c, dM_m, optP_some, ga0, ga1, ga2, ga3, ga4, cond_true, cond_false, chk_true, Bool.not_true, Bool.not_false, Option.isNone_none, Option.isNone_some, List.toList_toArray]
  refine ⟨_, _, hb, ?_⟩
  dsimp only
  have fin := hx2.trans (x35.trans x7)
  rw [hes]
  refine cond_of (fun hc => ?_) (fun hc => ?_)
  · have hc := of_decide_eq_true hc
    refine Ret.mk ⟨⟨9, rfl, ⟨fun h => (by cases h), fun h => (by have := h.2; omega)⟩⟩, fin⟩
  · have hc := of_decide_eq_false hc
    exact Ret.mk ⟨⟨0, rfl, fun _ => ⟨hW, by omega⟩, fun _ => rfl⟩, fin⟩
theorem refFit_all {w : World} {R : Sta} {ps : List Value} (h : StAt w R ps) (s m : Int) :
    stopcockref10_Fit.C (stC R ps).toArray s m w (Ret fun v w' => (∃ e, v = .int .i64 e ∧ (e = 0 ↔ FitR s m R)) ∧ Ex w w') := by
  apply stopcockref10_Fit.ok
  unfold stopcockref10_Fit.main
  rintro b1 w1 rfl rfl b2 w2 rfl rfl
  have o1 := Owns.new (w := w) (stC R ps) ty_api_State
  have x1 := Ex.alloc w (.cells (stC R ps).toArray ty_api_State)
  generalize w.heap.size = b1 at o1 ⊢
  generalize w.alloc (.cells (stC R ps).toArray ty_api_State) = w1 at o1 x1 ⊢
  have o2 := Owns.new (w := w1) (two s m) ty_api_Plat
  have x2 := Ex.alloc w1 (.cells (two s m).toArray ty_api_Plat)
  have e2 : w1.alloc (.cells #[.int .i64 s, .int .i64 m] ty_api_Plat) = w1.alloc (.cells (two s m).toArray ty_api_Plat) := rfl
  rw [e2]
  generalize w1.heap.size = b2 at o2 ⊢
  generalize w1.alloc (.cells (two s m).toArray ty_api_Plat) = w2 at o2 x2 ⊢
  have o1 := o1.ex x2
  have hx2 := x1.trans x2
  have h := h.ex hx2
  refine ⟨(stC R ps).toArray, by rw [List.size_toArray]; exact h.clen, o1.cells, (two s m).toArray, rfl, o2.cells, ?_⟩
  refine callP.use (refWithin_all h s m) ?_
  rintro _ w3 ⟨⟨e, rfl, he⟩, x3⟩
  try dsimp only [dI_i64, dI_u8, dI_u16, dI_u32, dB_bool, dS_slice, dP_ptr, dT_tup, dA_agg, dStr_str, dF_f, dC_c, dM_m, optP_some, ga0, ga1, ga2, ga3, ga4, cond_true, cond_false, chk_true, Bool.not_true, Bool.not_false, Option.isNone_none, Option.isNone_some, List.toList_toArray]
  have x3d := x3.trans (Ex.drew w3)
  refine cond_of (fun hc => ?_) (fun hc => ?_)
  · have he0 : e = 0 := by simpa using hc
    have hW := he.1 he0
    have hh := may_iff.1 hW.1
    have h := h.ex x3d
    refine ⟨(stC R ps).toArray, by rw [List.size_toArray]; exact h.clen, (o1.ex x3d).cells, (two s m).toArray, rfl, (o2.ex x3d).cells, ?_⟩
    refine callP.use (Places_all h (by have := used_le h.len hW.2.1; omega)) ?_
    rintro _ w5 ⟨⟨q, d, rfl⟩, x5⟩
    try dsimp only [dI_i64, dI_u8, dI_u16, dI_u32, dB_bool, dS_slice, dP_ptr, dT_tup, dA_agg, dStr_str, dF_f, dC_c, dM_m, optP_some, ga0, ga1, ga2, ga3, ga4, cond_true, cond_false, chk_true, Bool.not_true, Bool.not_false, Option.isNone_none, Option.isNone_some, List.toList_toArray]
    have x35 := x3d.trans x5
    refine chk_of (by rfl) ⟨(o2.ex x35).cells, ?_⟩
    refine callP.use (refCapacity_all s m hh w5) ?_
    rintro _ w7 ⟨rfl, x7⟩
    try dsimp only [dI_i64, dI_u8, dI_u16, dI_u32, dB_bool, dS_slice, dP_ptr, dT_tup, dA_agg, dStr_str, dF_f, dC_c, dM_m, optP_some, ga0, ga1, ga2, ga3, ga4, cond_true, cond_false, chk_true, Bool.not_true, Bool.not_false, Option.isNone_none, Option.isNone_some, List.toList_toArray]
    have fin := hx2.trans (x35.trans x7)
    refine cond_of (fun hc => ?_) (fun hc => ?_)
    · have hc := of_decide_eq_true hc
      refine Ret.mk ⟨⟨9, rfl, ⟨fun h => (by cases h), fun h => (by have := h.2; omega)⟩⟩, fin⟩
    · have hc' := of_decide_eq_false hc
      exact Ret.mk ⟨⟨e, rfl, fun _ => ⟨hW, by omega⟩, fun _ => he0⟩, fin⟩
  · have hc : ¬ e = 0 := by simpa using hc
    exact Ret.mk ⟨⟨e, rfl, fun h => absurd h hc, fun h => he.2 h.1⟩, hx2.trans x3d⟩
end Go.Proofs.Ythgmebhkbbehmaa.G
