/-
  The laws CellRows and CellTurns: rows of numbers and back: the walks.
-/
import Derived.Test.YtlcnjadfkpkgjaaCellF
namespace Go.Proofs.Ytlcnjadfkpkgjaa.G
open Go.Dec Go.RowKit
set_option linter.unusedVariables false
set_option linter.unusedSimpArgs false

theorem CellRows_row (s : Int) (p : Option Addr) (n c : Nat) (l : List Int) (q : Option Addr) (m d : Nat) (xs : List Int) (w : World) (_hs : -9223372036854775808 ≤ s ∧ s ≤ 9223372036854775807) (h : Ints .i64 w p n c l) (h' : Ints .u8 w q m d xs) (hb : c + d ≤ 1048576) :
    stopcocklaw04_CellRows.C s p n c q m d w (Ret fun v w' => v = .bool true ∧ Ex w w') := by
  have hr := h.room
  have hr' := h'.room
  apply stopcocklaw04_CellRows.ok
  unfold stopcocklaw04_CellRows.main
  refine callP.use (Row_spec p n c l s w h.cells h.size (by omega)) ?_
  rintro _ w1 ⟨p1, n1, c1, rfl, hn1, ho1, h1⟩
  try dsimp only [dI_i64, dI_u8, dI_u16, dI_u32, dB_bool, dS_slice, dP_ptr, dT_tup, dA_agg, dStr_str, dF_f, dC_c, dM_m, optP_some, ga0, ga1, ga2, ga3, ga4, cond_true, cond_false, chk_true, Bool.not_true, Bool.not_false, Option.isNone_none, Option.isNone_some]
  refine callP.use (refRow_spec p n c l s w1 (h.cells.ex h1) h.size (by omega) fun x hx => (wf_i64' (h.wf x hx)).2) ?_
  rintro _ w2 ⟨p2, n2, c2, rfl, hn2, ho2, h2⟩
  try dsimp only [dI_i64, dI_u8, dI_u16, dI_u32, dB_bool, dS_slice, dP_ptr, dT_tup, dA_agg, dStr_str, dF_f, dC_c, dM_m, optP_some, ga0, ga1, ga2, ga3, ga4, cond_true, cond_false, chk_true, Bool.not_true, Bool.not_false, Option.isNone_none, Option.isNone_some]
  refine callP.use (Unrow_spec q m d xs s w2 (h'.cells.ex (h1.trans h2)) h'.size hr' (by omega) fun x hx => wf_u8' (h'.wf x hx)) ?_
  rintro _ w3 ⟨p3, n3, c3, rfl, hn3, ho3, h3⟩
  try dsimp only [dI_i64, dI_u8, dI_u16, dI_u32, dB_bool, dS_slice, dP_ptr, dT_tup, dA_agg, dStr_str, dF_f, dC_c, dM_m, optP_some, ga0, ga1, ga2, ga3, ga4, cond_true, cond_false, chk_true, Bool.not_true, Bool.not_false, Option.isNone_none, Option.isNone_some]
  refine callP.use (refUnrow_spec q m d xs s w3 (h'.cells.ex ((h1.trans h2).trans h3)) h'.size (by omega) fun x hx => wf_u8' (h'.wf x hx)) ?_
  rintro _ w4 ⟨p4, n4, c4, rfl, hn4, ho4, h4⟩
  try dsimp only [dI_i64, dI_u8, dI_u16, dI_u32, dB_bool, dS_slice, dP_ptr, dT_tup, dA_agg, dStr_str, dF_f, dC_c, dM_m, optP_some, ga0, ga1, ga2, ga3, ga4, cond_true, cond_false, chk_true, Bool.not_true, Bool.not_false, Option.isNone_none, Option.isNone_some]
  refine callP.use (awake_spec w4) ?_
  rintro _ w5 ⟨rfl, h5⟩
  try dsimp only [dI_i64, dI_u8, dI_u16, dI_u32, dB_bool, dS_slice, dP_ptr, dT_tup, dA_agg, dStr_str, dF_f, dC_c, dM_m, optP_some, ga0, ga1, ga2, ga3, ga4, cond_true, cond_false, chk_true, Bool.not_true, Bool.not_false, Option.isNone_none, Option.isNone_some]
  rw [cond_pos (by simp)]
  have l1 : (rowB s l).length = n1 := by have := ho1.1; simpa [v8] using this
  have l2 : (rowB s l).length = n2 := by have := ho2.1; simpa [v8] using this
  refine ⟨rowB s l, l1, ho1.cells.ex (((h2.trans h3).trans h4).trans h5), rowB s l, l2, ho2.cells.ex ((h3.trans h4).trans h5), ?_⟩
  rw [cond_pos (by simp), cond_pos (by simp)]
  refine callP.use (Ints_spec p3 n3 c3 p4 n4 c4 (unB s xs) (unB s xs) w5 (ho3.cells.ex (h4.trans h5)) (by have := ho3.1; simpa [v64] using this) (ho4.cells.ex h5) (by have := ho4.1; simpa [v64] using this) (by omega)) ?_
  rintro _ w6 ⟨rfl, h6⟩
  try dsimp only [dI_i64, dI_u8, dI_u16, dI_u32, dB_bool, dS_slice, dP_ptr, dT_tup, dA_agg, dStr_str, dF_f, dC_c, dM_m, optP_some, ga0, ga1, ga2, ga3, ga4, cond_true, cond_false, chk_true, Bool.not_true, Bool.not_false, Option.isNone_none, Option.isNone_some]
  exact Ret.mk ⟨by simp, ((((h1.trans h2).trans h3).trans h4).trans h5).trans h6⟩

/-! ### There and back -/
theorem num_inj : ∀ {l m : List Int}, l.length = m.length → (∀ x ∈ l, 0 ≤ x ∧ x < 256) → (∀ x ∈ m, 0 ≤ x ∧ x < 256) → num l = num m → l = m
  | [], [], _, _, _, _ => rfl
  | [], y :: m, h, _, _, _ => by simp at h
  | x :: l, [], h, _, _, _ => by simp at h
  | x :: l, y :: m, h, hl, hm, e => by
    have e1 : num (x :: l) = num [x] * 256 ^ l.length + num l := num_append [x] l
    have e2 : num (y :: m) = num [y] * 256 ^ m.length + num m := num_append [y] m
    have hlen : l.length = m.length := by simpa using h
    obtain ⟨a0, a1⟩ := num_bound l fun z hz => hl z (by simp [hz])
    obtain ⟨b0, b1⟩ := num_bound m fun z hz => hm z (by simp [hz])
    rw [e1, e2, hlen] at e
    rw [hlen] at a1
    have x1 : num [x] = x := by simp [num]
    have y1 : num [y] = y := by simp [num]
    rw [x1, y1] at e
    have hxy : x = y := by
      rcases Int.lt_trichotomy x y with hlt | hlt | hlt
      · have := Int.mul_le_mul_of_nonneg_right (a := x + 1) (b := y) (c := 256 ^ m.length) (by omega) (by omega)
        rw [Int.add_mul, Int.one_mul] at this
        omega
      · exact hlt
      · have := Int.mul_le_mul_of_nonneg_right (a := y + 1) (b := x) (c := 256 ^ m.length) (by omega) (by omega)
        rw [Int.add_mul, Int.one_mul] at this
        omega
    subst hxy
    rw [num_inj hlen (fun z hz => hl z (by simp [hz])) (fun z hz => hm z (by simp [hz])) (by omega)]
theorem num_ok {xs : List Int} (hb : ∀ x ∈ xs, 0 ≤ x ∧ x < 256) : okNum xs.length (num xs) = true := by
  obtain ⟨h0, h1⟩ := num_bound xs hb
  simp [okNum, h0, h1]
theorem be_num {xs : List Int} (hb : ∀ x ∈ xs, 0 ≤ x ∧ x < 256) : be xs.length (num xs) = xs :=
  num_inj (be_length _ _) (be_byte _ _) hb (num_be_ok (num_ok hb))
theorem cut1_ok {k i : Nat} {xs : List Int} (hb : ∀ x ∈ xs, 0 ≤ x ∧ x < 256) (h : (i + 1) * k ≤ xs.length) : okNum k (cut1 k xs i) = true ∧ be k (cut1 k xs i) = (xs.drop (i * k)).take k := by
  rw [Nat.add_mul, Nat.one_mul] at h
  have hl : ((xs.drop (i * k)).take k).length = k := by simp; omega
  have hb' : ∀ x ∈ (xs.drop (i * k)).take k, 0 ≤ x ∧ x < 256 := fun x hx => hb x (List.mem_of_mem_drop (List.mem_of_mem_take hx))
  have h1 := num_ok hb'
  have h2 := be_num hb'
  rw [hl] at h1 h2
  exact ⟨h1, h2⟩
theorem unL_back {k : Nat} {xs : List Int} (hb : ∀ x ∈ xs, 0 ≤ x ∧ x < 256) : ∀ m, m * k ≤ xs.length → (unL k m xs).all (okNum k) = true ∧ (unL k m xs).flatMap (be k) = xs.take (m * k)
  | 0, _ => by simp [unL]
  | m + 1, h => by
    obtain ⟨h1, h2⟩ := cut1_ok hb h
    rw [Nat.add_mul, Nat.one_mul] at h
    obtain ⟨i1, i2⟩ := unL_back (k := k) hb m (by omega)
    rw [unL_snoc]
    refine ⟨by rw [List.all_append, i1]; simp [h1], ?_⟩
    rw [List.flatMap_append, i2]
    simp only [List.flatMap_cons, List.flatMap_nil, List.append_nil, h2]
    rw [Nat.add_mul, Nat.one_mul, List.take_add]
theorem flat_drop (k : Nat) : ∀ (i : Nat) (l : List Int), (l.flatMap (be k)).drop (i * k) = (l.drop i).flatMap (be k)
  | 0, l => by simp
  | i + 1, [] => by simp
  | i + 1, x :: l => by
    rw [List.flatMap_cons, Nat.add_mul, Nat.one_mul, Nat.add_comm, ← List.drop_drop, List.drop_left' (be_length k x), flat_drop k i l, List.drop_succ_cons]
theorem unL_row {k : Nat} {l : List Int} (h : l.all (okNum k) = true) : unL k l.length (l.flatMap (be k)) = l := by
  apply List.ext_getElem
  · rw [unL_length]
  · intro i h1 h2
    simp only [unL, List.getElem_map, List.getElem_range, cut1]
    rw [flat_drop, List.drop_eq_getElem_cons h2, List.flatMap_cons, List.take_left' (be_length _ _)]
    exact num_be_ok (List.all_eq_true.1 h _ (List.getElem_mem _))

theorem CellTurns_row (s : Int) (p : Option Addr) (n c : Nat) (l : List Int) (q : Option Addr) (m d : Nat) (xs : List Int) (w : World) (hs : 0 ≤ s ∧ s < 256) (h : Ints .i64 w p n c l) (h' : Ints .u8 w q m d xs) (hb : c + d ≤ 1048576) :
    stopcocklaw04_CellTurns.C s p n c q m d w (Ret fun v w' => v = .bool true ∧ Ex w w') := by
  have hr := h.room
  have hr' := h'.room
  have hbx : ∀ x ∈ xs, 0 ≤ x ∧ x < 256 := fun x hx => wf_u8' (h'.wf x hx)
  apply stopcocklaw04_CellTurns.ok
  unfold stopcocklaw04_CellTurns.main
  obtain ⟨k, hk, hk1, hk4, -⟩ := wrapK hs.1 hs.2
  rw [hk]
  have last : ∀ w1, Ex w w1 → stopcocklaw04_CellTurns.k1 q m d k w1 (Ret fun v w' => v = .bool true ∧ Ex w w') := by
    intro w1 h1
    unfold stopcocklaw04_CellTurns.k1
    refine callP.use (Unrow_spec q m d xs k w1 (h'.cells.ex h1) h'.size hr' (by omega) hbx) ?_
    rintro _ w2 ⟨p2, n2, c2, rfl, hn2, ho2, h2⟩
    obtain ⟨e1, e2⟩ := un_in hk1 hk4 m xs
    rw [e1]
    rw [e2] at ho2
    try dsimp only [dI_i64, dI_u8, dI_u16, dI_u32, dB_bool, dS_slice, dP_ptr, dT_tup, dA_agg, dStr_str, dF_f, dC_c, dM_m, optP_some, ga0, ga1, ga2, ga3, ga4, cond_true, cond_false, chk_true, Bool.not_true, Bool.not_false, Option.isNone_none, Option.isNone_some]
    by_cases hz : m % k = 0
    · rw [if_pos hz, cond_neg (by decide)]
      rw [h'.size, if_pos hz] at ho2
      have hn : m / k = n2 := by have := ho2.1; simpa [v64, unL] using this
      have hmul : m / k * k = m := Nat.div_mul_cancel (Nat.dvd_of_mod_eq_zero hz)
      obtain ⟨b1, b2⟩ := unL_back hbx (m / k) (by rw [hmul, h'.size]; omega)
      rw [hmul, ← h'.size, List.take_length] at b2
      have hdl : m / k ≤ m := Nat.div_le_self _ _
      rw [h'.size] at b2
      refine callP.use (Row_spec p2 n2 c2 (unL k (m / k) xs) k w2 ho2.cells (by rw [unL_length]; exact hn) (by omega)) ?_
      rintro _ w3 ⟨p3, n3, c3, rfl, hn3, ho3, h3⟩
      obtain ⟨f1, f2⟩ := row_in hk1 hk4 (unL k (m / k) xs)
      rw [f1, b1]
      rw [f2, b1] at ho3
      simp only [if_true] at ho3 ⊢
      rw [b2] at ho3
      try dsimp only [dI_i64, dI_u8, dI_u16, dI_u32, dB_bool, dS_slice, dP_ptr, dT_tup, dA_agg, dStr_str, dF_f, dC_c, dM_m, optP_some, ga0, ga1, ga2, ga3, ga4, cond_true, cond_false, chk_true, Bool.not_true, Bool.not_false, Option.isNone_none, Option.isNone_some]
      refine callP.use (awake_spec w3) ?_
      rintro _ w4 ⟨rfl, h4⟩
      try dsimp only [dI_i64, dI_u8, dI_u16, dI_u32, dB_bool, dS_slice, dP_ptr, dT_tup, dA_agg, dStr_str, dF_f, dC_c, dM_m, optP_some, ga0, ga1, ga2, ga3, ga4, cond_true, cond_false, chk_true, Bool.not_true, Bool.not_false, Option.isNone_none, Option.isNone_some]
      rw [cond_pos (by decide)]
      refine ⟨xs, by have := ho3.1; simpa [v8] using this, ho3.cells.ex h4, xs, h'.size, h'.cells.ex (((h1.trans h2).trans h3).trans h4), Ret.mk ⟨by simp, ((h1.trans h2).trans h3).trans h4⟩⟩
    · rw [if_neg hz, cond_pos (by decide)]
      refine callP.use (awake_spec w2) ?_
      rintro _ w3 ⟨rfl, h3⟩
      try dsimp only [dI_i64, dI_u8, dI_u16, dI_u32, dB_bool, dS_slice, dP_ptr, dT_tup, dA_agg, dStr_str, dF_f, dC_c, dM_m, optP_some, ga0, ga1, ga2, ga3, ga4, cond_true, cond_false, chk_true, Bool.not_true, Bool.not_false, Option.isNone_none, Option.isNone_some]
      rw [cond_pos (by decide)]
      refine chkd_of (by omega) (Ret.mk ⟨?_, (h1.trans h2).trans h3⟩)
      have em : Int.tmod (m : Int) (k : Int) = ((m % k : Nat) : Int) := by simp [Int.tmod]
      rw [em]
      simp; omega
  refine callP.use (Row_spec p n c l k w h.cells h.size (by omega)) ?_
  rintro _ w1 ⟨p1, n1, c1, rfl, hn1, ho1, h1⟩
  obtain ⟨e1, e2⟩ := row_in hk1 hk4 l
  rw [e1]
  rw [e2] at ho1
  try dsimp only [dI_i64, dI_u8, dI_u16, dI_u32, dB_bool, dS_slice, dP_ptr, dT_tup, dA_agg, dStr_str, dF_f, dC_c, dM_m, optP_some, ga0, ga1, ga2, ga3, ga4, cond_true, cond_false, chk_true, Bool.not_true, Bool.not_false, Option.isNone_none, Option.isNone_some]
  cases hok : l.all (okNum k) with
  | false =>
    simp only [Bool.false_eq_true, if_false]
    rw [cond_neg (by decide)]
    exact last w1 h1
  | true =>
    rw [hok] at ho1
    simp only [if_true] at ho1 ⊢
    rw [cond_pos (by decide)]
    have hlen : (l.flatMap (be k)).length = n1 := by have := ho1.1; simpa [v8] using this
    have hlk : n1 = n * k := by rw [← hlen, row_length, h.size]
    refine callP.use (Unrow_spec p1 n1 c1 (l.flatMap (be k)) k w1 ho1.cells hlen ho1.2.1 (by omega) fun x hx => ?_) ?_
    · obtain ⟨y, hy, hx⟩ := List.mem_flatMap.1 hx
      exact be_byte k y x hx
    rintro _ w2 ⟨p2, n2, c2, rfl, hn2, ho2, h2⟩
    obtain ⟨f1, f2⟩ := un_in hk1 hk4 n1 (l.flatMap (be k))
    rw [f1, hlk, if_pos (Nat.mul_mod_left _ _)]
    rw [f2, hlen, hlk, if_pos (Nat.mul_mod_left _ _), Nat.mul_div_cancel _ (by omega), ← h.size, unL_row hok] at ho2
    try dsimp only [dI_i64, dI_u8, dI_u16, dI_u32, dB_bool, dS_slice, dP_ptr, dT_tup, dA_agg, dStr_str, dF_f, dC_c, dM_m, optP_some, ga0, ga1, ga2, ga3, ga4, cond_true, cond_false, chk_true, Bool.not_true, Bool.not_false, Option.isNone_none, Option.isNone_some]
    rw [cond_neg (by decide)]
    refine callP.use (Ints_spec p2 n2 c2 p n c l l w2 ho2.cells (by have := ho2.1; simpa [v64] using this) (h.cells.ex (h1.trans h2)) h.size (by omega)) ?_
    rintro _ w3 ⟨rfl, h3⟩
    try dsimp only [dI_i64, dI_u8, dI_u16, dI_u32, dB_bool, dS_slice, dP_ptr, dT_tup, dA_agg, dStr_str, dF_f, dC_c, dM_m, optP_some, ga0, ga1, ga2, ga3, ga4, cond_true, cond_false, chk_true, Bool.not_true, Bool.not_false, Option.isNone_none, Option.isNone_some]
    rw [cond_neg (by simp)]
    have hsm : k * n ≤ 4 * 1048576 := Nat.mul_le_mul hk4 (by omega)
    have e3 : (k : Int) * (n : Int) = ((k * n : Nat) : Int) := by simp
    rw [e3, w64 (by omega) (by omega), cond_neg (by rw [Nat.mul_comm n k]; simp)]
    exact last w3 ((h1.trans h2).trans h3)
end Go.Proofs.Ytlcnjadfkpkgjaa.G
