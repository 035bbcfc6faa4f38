/-
  Rows of numbers of one size: cell.Row, cell.Unrow, and the document's; the laws CellRows and CellTurns: the walks.
-/
import Derived.Test.YtlcnjadfkpkgjaaCellE
namespace Go.Proofs.Ytlcnjadfkpkgjaa.G
open Go.Dec Go.RowKit
set_option linter.unusedVariables false
set_option linter.unusedSimpArgs false

def v64 (l : List Int) : List Value := l.map (.int .i64)
def rowE (s : Int) (l : List Int) : Int := if decide (1 ≤ s) && decide (s ≤ 4) then (if l.all (okNum s.toNat) then 0 else 5) else 1
def rowB (s : Int) (l : List Int) : List Int := if decide (1 ≤ s) && decide (s ≤ 4) then (if l.all (okNum s.toNat) then l.flatMap (be s.toNat) else []) else []
theorem row_out {s : Int} (h : s < 1 ∨ 4 < s) (l : List Int) : rowE s l = 1 ∧ rowB s l = [] := by
  have : (decide (1 ≤ s) && decide (s ≤ 4)) = false := by simp; omega
  simp [rowE, rowB, this]
theorem row_in {k : Nat} (h1 : 1 ≤ k) (h4 : k ≤ 4) (l : List Int) : rowE k l = (if l.all (okNum k) then 0 else 5) ∧ rowB k l = (if l.all (okNum k) then l.flatMap (be k) else []) := by
  have : (decide (1 ≤ (k : Int)) && decide ((k : Int) ≤ 4)) = true := by simp; omega
  simp [rowE, rowB, this]
theorem row_length (k : Nat) (l : List Int) : (l.flatMap (be k)).length = l.length * k := by
  induction l with
  | nil => simp
  | cons x r ih => simp [List.flatMap_cons, be_length, ih, Nat.add_mul]; omega
theorem ex_ge {w w' : World} (h : Kp w w' fun i => w.heap.size ≤ i) : Ex w w' := h.mono fun i hi hb => by omega
theorem not_all {l : List Int} {j : Nat} (hj : j < l.length) {f : Int → Bool} (h : f l[j] = false) : l.all f = false := by
  rw [List.all_eq_false]
  exact ⟨l[j], List.getElem_mem _, by simp [h]⟩
theorem all_snoc {l : List Int} {j : Nat} (hj : j < l.length) {f : Int → Bool} (h : f l[j] = true) (ha : (l.take j).all f = true) : (l.take (j + 1)).all f = true := by
  rw [List.take_succ_eq_append_getElem hj, List.all_append, ha]
  simp [h]
theorem flat_snoc {l : List Int} {j : Nat} (hj : j < l.length) (f : Int → List Int) : (l.take (j + 1)).flatMap f = (l.take j).flatMap f ++ f l[j] := by
  rw [List.take_succ_eq_append_getElem hj, List.flatMap_append]
  simp [List.flatMap_cons]

theorem Row_spec (p : Option Addr) (n c : Nat) (l : List Int) (s : Int) (w : World) (hc : CellsO w p (v64 l)) (hn : l.length = n) (hl : n ≤ 1048576) :
    cell_Row.C s p n c w (Ret fun v w' => ∃ p' n' c', v = .tuple #[.slice p' n' c', .int .i64 (rowE s l)] ∧ n' ≤ 4 * n ∧ Own w' w.heap.size ty_uint8 1 p' n' c' (v8 (rowB s l)) ∧ Ex w w') := by
  apply cell_Row.ok
  unfold cell_Row.main
  refine callP.use (size_spec s w) ?_
  rintro _ w1 ⟨rfl, h1⟩
  try dsimp only [dI_i64, dI_u8, dI_u16, dI_u32, dB_bool, dS_slice, dP_ptr, dT_tup, dA_agg, dStr_str, dF_f, dC_c, dM_m, optP_some, ga0, ga1, ga2, ga3, ga4, cond_true, cond_false, chk_true, Bool.not_true, Bool.not_false, Option.isNone_none, Option.isNone_some]
  by_cases hs : s < 1 ∨ 4 < s
  · obtain ⟨e1, e2⟩ := row_out hs l
    rw [cond_pos (by simp; omega), e1, e2]
    exact Ret.mk ⟨none, 0, 0, rfl, by omega, Own.nil _ _ _ _, h1⟩
  · obtain ⟨k, rfl⟩ : ∃ k : Nat, s = k := ⟨s.toNat, by omega⟩
    have hk1 : 1 ≤ k := by omega
    have hk4 : k ≤ 4 := by omega
    obtain ⟨e1, e2⟩ := row_in hk1 hk4 l
    rw [cond_neg (by simp; omega), e1, e2]
    unfold cell_Row.l1
    refine ⟨fun s1 q m d p1 n1 c1 t i w2 => (k : Int) = s1 ∧ p = p1 ∧ n = n1 ∧ c = c1 ∧ (n : Int) = t ∧ ∃ j : Nat, i = j ∧ j ≤ n ∧ (l.take j).all (okNum k) = true ∧ m = j * k ∧ Own w2 w.heap.size ty_uint8 1 q m d (v8 ((l.take j).flatMap (be k))) ∧ Ex w w2,
      fun _ _ _ _ _ _ _ _ i _ => (n - i).toNat, ⟨rfl, rfl, rfl, rfl, rfl, 0, rfl, by omega, by simp, by omega, by simpa using Own.nil _ _ _ _, h1⟩, ?_⟩
    rintro _ q m d _ _ _ _ _ w2 ⟨rfl, rfl, rfl, rfl, rfl, j, rfl, hj, hall, rfl, ho, h2⟩
    unfold cell_Row.b1
    by_cases hlt : (j : Int) < n
    · have hjl : j < l.length := by omega
      rw [condd_pos hlt]
      obtain ⟨a1, hp1, hcell⟩ := CellsO.map_get (hc.ex h2) hjl
      refine chkd_of (by omega) (chkd_of (by omega) (optP_of hp1 ?_))
      refine ⟨l[j], by simpa using hcell, ?_⟩
      have h64 : j * k ≤ 1048576 * 4 := Nat.mul_le_mul (by omega) hk4
      refine callP.use (put_spec w.heap.size q (j * k) d ((l.take j).flatMap (be k)) k l[j] w2 ho h2.size hk1 hk4 (by omega)) ?_
      rintro _ w3 ⟨q', m', d', rfl, hm', ho3, h3⟩
      try dsimp only [dI_i64, dI_u8, dI_u16, dI_u32, dB_bool, dS_slice, dP_ptr, dT_tup, dA_agg, dStr_str, dF_f, dC_c, dM_m, optP_some, ga0, ga1, ga2, ga3, ga4, cond_true, cond_false, chk_true, Bool.not_true, Bool.not_false, Option.isNone_none, Option.isNone_some]
      have hex : Ex w w3 := ex_ge ((Kp.mono h2 fun _ _ h => h.elim).trans h3 (fun _ _ h => h) (fun _ _ h => h))
      cases hok : okNum k l[j] with
      | false =>
        rw [cond_pos (by decide)]
        rw [not_all hjl hok]
        exact Ret.mk ⟨none, 0, 0, rfl, by omega, Own.nil _ _ _ _, hex⟩
      | true =>
        rw [hok] at ho3
        simp only [if_true] at ho3
        rw [cond_neg (by decide), w64 (by omega) (by omega)]
        refine ⟨⟨rfl, rfl, rfl, rfl, rfl, j + 1, by omega, by omega, all_snoc hjl hok hall, ?_, ?_, hex⟩, by ((try dsimp only); omega)⟩
        · have := ho3.1
          simp only [v8, List.length_map, List.length_append, row_length, be_length, List.length_take] at this
          rw [Nat.min_eq_left (by omega)] at this
          rw [Nat.add_mul]; omega
        · rw [flat_snoc hjl]; exact ho3
    · rw [condd_neg hlt]
      have : j = l.length := by omega
      subst this
      rw [List.take_length] at hall ho
      rw [hall]
      simp only [if_true]
      refine Ret.mk ⟨q, _, d, rfl, ?_, ho, h2⟩
      have : l.length * k ≤ l.length * 4 := Nat.mul_le_mul_left _ hk4
      omega

theorem refRow_spec (p : Option Addr) (n c : Nat) (l : List Int) (s : Int) (w : World) (hc : CellsO w p (v64 l)) (hn : l.length = n) (hl : n ≤ 1048576) (hb : ∀ x ∈ l, x ≤ 9223372036854775807) :
    stopcockref04_Row.C s p n c w (Ret fun v w' => ∃ p' n' c', v = .tuple #[.slice p' n' c', .int .i64 (rowE s l)] ∧ n' ≤ 4 * n ∧ Own w' w.heap.size ty_uint8 1 p' n' c' (v8 (rowB s l)) ∧ Ex w w') := by
  apply stopcockref04_Row.ok
  unfold stopcockref04_Row.main
  by_cases h1 : s < 1
  · obtain ⟨e1, e2⟩ := row_out (.inl h1) l
    rw [condd_pos h1, e1, e2]
    exact Ret.mk ⟨none, 0, 0, rfl, by omega, Own.nil _ _ _ _, Ex.refl w⟩
  rw [condd_neg h1]
  by_cases h4 : s > 4
  · obtain ⟨e1, e2⟩ := row_out (.inr h4) l
    rw [condd_pos h4, e1, e2]
    exact Ret.mk ⟨none, 0, 0, rfl, by omega, Own.nil _ _ _ _, Ex.refl w⟩
  rw [condd_neg h4]
  obtain ⟨k, rfl⟩ : ∃ k : Nat, s = k := ⟨s.toNat, by omega⟩
  have hk1 : 1 ≤ k := by omega
  have hk4 : k ≤ 4 := by omega
  obtain ⟨e1, e2⟩ := row_in hk1 hk4 l
  rw [e1, e2]
  rintro b0 w0 rfl rfl
  unfold stopcockref04_Row.l1
  refine ⟨fun s1 p1 n1 c1 q m d i w2 => (k : Int) = s1 ∧ p = p1 ∧ n = n1 ∧ c = c1 ∧ ∃ j : Nat, i = j ∧ j ≤ n ∧ (l.take j).all (okNum k) = true ∧ m = j * k ∧ Own w2 w.heap.size ty_uint8 1 q m d (v8 ((l.take j).flatMap (be k))) ∧ Ex w w2,
    fun _ _ _ _ _ _ _ i _ => (n - i).toNat, ⟨rfl, rfl, rfl, rfl, 0, rfl, by omega, by simp, by omega, by simpa using Own.alloc (w := w) [] 5 1 0 rfl, Ex.alloc _ _⟩, ?_⟩
  rintro _ _ _ _ q m d _ w2 ⟨rfl, rfl, rfl, rfl, j, rfl, hj, hall, rfl, ho, h2⟩
  unfold stopcockref04_Row.b1
  by_cases hlt : (j : Int) < n
  · have hjl : j < l.length := by omega
    rw [condd_pos hlt]
    obtain ⟨a1, hp1, hcell⟩ := CellsO.map_get (hc.ex h2) hjl
    refine chkd_of (by omega) (chkd_of (by omega) (optP_of hp1 ?_))
    refine ⟨l[j], by simpa using hcell, ?_⟩
    have h64 : j * k ≤ 1048576 * 4 := Nat.mul_le_mul (by omega) hk4
    refine callP.use (refPut_spec none 0 0 [] k l[j] w2 rfl rfl (by omega) (hb _ (List.getElem_mem _))) ?_
    rintro _ w3 ⟨q', m', d', rfl, hm', ho3, h3⟩
    rw [putE_nat hk1 hk4]
    rw [putB_nat hk1 hk4] at ho3
    try dsimp only [dI_i64, dI_u8, dI_u16, dI_u32, dB_bool, dS_slice, dP_ptr, dT_tup, dA_agg, dStr_str, dF_f, dC_c, dM_m, optP_some, ga0, ga1, ga2, ga3, ga4, cond_true, cond_false, chk_true, Bool.not_true, Bool.not_false, Option.isNone_none, Option.isNone_some]
    cases hok : okNum k l[j] with
    | false =>
      rw [cond_pos (by decide)]
      rw [not_all hjl hok]
      exact Ret.mk ⟨none, 0, 0, rfl, by omega, Own.nil _ _ _ _, h2.trans h3⟩
    | true =>
      rw [hok] at ho3
      simp only [if_true, List.nil_append] at ho3
      have hm : k = m' := by have := ho3.1; simpa [v8, be_length] using this
      subst hm
      rw [cond_neg (by decide)]
      refine appP_own (B := w.heap.size) (ho.ex h3) (h2.trans h3).size (v8 (be k l[j])) ho3.cells (by simp [v8, be_length]) (vals_one _ _) rfl (by omega) (by omega) ?_
      intro p2 c2 w4 ho4 hk4'
      have hex : Ex w w4 := ex_ge (Kp.trans (h2.trans h3) hk4' (fun _ _ h => h.elim) (fun i hi ⟨a, ha, hai⟩ => by have := (ho.ge ha).1; omega))
      rw [w64 (by omega) (by omega)]
      refine ⟨⟨rfl, rfl, rfl, rfl, j + 1, by omega, by omega, all_snoc hjl hok hall, by rw [Nat.add_mul]; omega, ?_, hex⟩, by ((try dsimp only); omega)⟩
      rw [flat_snoc hjl]
      simpa [v8] using ho4
  · rw [condd_neg hlt]
    have : j = l.length := by omega
    subst this
    rw [List.take_length] at hall ho
    rw [hall]
    simp only [if_true]
    refine Ret.mk ⟨q, _, d, rfl, ?_, ho, h2⟩
    have : l.length * k ≤ l.length * 4 := Nat.mul_le_mul_left _ hk4
    omega

/-! ### Unrow -/
def unE (s : Int) (n : Nat) : Int := if decide (1 ≤ s) && decide (s ≤ 4) then (if n % s.toNat = 0 then 0 else 6) else 1
def cut1 (k : Nat) (xs : List Int) (i : Nat) : Int := num ((xs.drop (i * k)).take k)
def unL (k m : Nat) (xs : List Int) : List Int := (List.range m).map (cut1 k xs)
def unB (s : Int) (xs : List Int) : List Int := if decide (1 ≤ s) && decide (s ≤ 4) then (if xs.length % s.toNat = 0 then unL s.toNat (xs.length / s.toNat) xs else []) else []
theorem un_out {s : Int} (h : s < 1 ∨ 4 < s) (n : Nat) (xs : List Int) : unE s n = 1 ∧ unB s xs = [] := by
  have : (decide (1 ≤ s) && decide (s ≤ 4)) = false := by simp; omega
  simp [unE, unB, this]
theorem un_in {k : Nat} (h1 : 1 ≤ k) (h4 : k ≤ 4) (n : Nat) (xs : List Int) : unE k n = (if n % k = 0 then 0 else 6) ∧ unB k xs = (if xs.length % k = 0 then unL k (xs.length / k) xs else []) := by
  have : (decide (1 ≤ (k : Int)) && decide ((k : Int) ≤ 4)) = true := by simp; omega
  simp [unE, unB, this]
theorem unL_snoc (k m : Nat) (xs : List Int) : unL k (m + 1) xs = unL k m xs ++ [cut1 k xs m] := by simp [unL, List.range_succ]
theorem unL_length (k m : Nat) (xs : List Int) : (unL k m xs).length = m := by simp [unL]

theorem Unrow_spec (p : Option Addr) (n c : Nat) (xs : List Int) (s : Int) (w : World) (hc : CellsO w p (v8 xs)) (hn : xs.length = n) (hcap : n ≤ c) (hl : n ≤ 8388608) (hb : ∀ x ∈ xs, 0 ≤ x ∧ x < 256) :
    cell_Unrow.C p n c s w (Ret fun v w' => ∃ p' n' c', v = .tuple #[.slice p' n' c', .int .i64 (unE s n)] ∧ n' ≤ n ∧ Own w' w.heap.size ty_int 1 p' n' c' (v64 (unB s xs)) ∧ Ex w w') := by
  apply cell_Unrow.ok
  unfold cell_Unrow.main
  refine callP.use (size_spec s w) ?_
  rintro _ w1 ⟨rfl, h1⟩
  try dsimp only [dI_i64, dI_u8, dI_u16, dI_u32, dB_bool, dS_slice, dP_ptr, dT_tup, dA_agg, dStr_str, dF_f, dC_c, dM_m, optP_some, ga0, ga1, ga2, ga3, ga4, cond_true, cond_false, chk_true, Bool.not_true, Bool.not_false, Option.isNone_none, Option.isNone_some]
  by_cases hs : s < 1 ∨ 4 < s
  · obtain ⟨e1, e2⟩ := un_out hs n xs
    rw [cond_pos (by simp; omega), e1, e2]
    exact Ret.mk ⟨none, 0, 0, rfl, by omega, Own.nil _ _ _ _, h1⟩
  obtain ⟨k, rfl⟩ : ∃ k : Nat, s = k := ⟨s.toNat, by omega⟩
  have hk1 : 1 ≤ k := by omega
  have hk4 : k ≤ 4 := by omega
  obtain ⟨e1, e2⟩ := un_in hk1 hk4 n xs
  rw [cond_neg (by simp; omega), e1, e2]
  refine chkd_of (by omega) ?_
  have em : Int.tmod (n : Int) (k : Int) = ((n % k : Nat) : Int) := by simp [Int.tmod]
  rw [em, hn]
  by_cases hz : n % k = 0
  · rw [cond_neg (by simp [hz]), if_pos hz, if_pos hz]
    obtain ⟨q, rfl⟩ : ∃ q, n = q * k := ⟨n / k, by rw [Nat.mul_comm]; exact (Nat.mul_div_cancel' (Nat.dvd_of_mod_eq_zero hz)).symm⟩
    rw [Nat.mul_div_cancel _ (by omega)]
    unfold cell_Unrow.l1
    refine ⟨fun p1 n1 c1 s1 r m d w2 => (k : Int) = s1 ∧ n1 ≤ c1 ∧ m * k + n1 = q * k ∧ CellsO w p1 (v8 (xs.drop (m * k))) ∧ Own w2 w.heap.size ty_int 1 r m d (v64 (unL k m xs)) ∧ Ex w w2,
      fun _ n1 _ _ _ _ _ _ => n1, ⟨rfl, hcap, by omega, by simpa using hc, by simpa [unL, v64] using Own.nil _ _ _ _, h1⟩, ?_⟩
    rintro p1 n1 c1 _ r m d w2 ⟨rfl, hc1, hm, hcs, ho, h2⟩
    unfold cell_Unrow.b1
    have hmk : m * k + n1 ≤ 8388608 := by omega
    have hmm : m ≤ m * k := Nat.le_mul_of_pos_right _ (by omega)
    by_cases h0 : (n1 : Int) > 0
    · rw [condd_pos h0]
      have hkn : k ≤ n1 := by
        have hlt : m < q := Nat.lt_of_mul_lt_mul_right (a := k) (by omega)
        have := Nat.mul_le_mul_right k (show m + 1 ≤ q by omega)
        rw [Nat.add_mul] at this
        omega
      refine chkd_of (by omega) (chkd_of (by omega) ?_)
      have hdl : (xs.drop (m * k)).length = n1 := by rw [List.length_drop]; omega
      have hc0 : CellsO w2 (slA p1 c1 0 1) (v8 ((xs.drop (m * k)).take k)) := by
        have := CellsO.slice (hcs.ex h2) c1 0 k (by simp [v8, hdl]; omega)
        simpa [v8, List.map_take] using this
      rw [Int.toNat_natCast]
      refine callP.use (get_spec _ k c1 ((xs.drop (m * k)).take k) w2 hc0 (by simp; omega) hk4 fun x hx => hb x (List.mem_of_mem_drop (List.mem_of_mem_take hx))) ?_
      rintro _ w3 ⟨rfl, h3⟩
      try dsimp only [dI_i64, dI_u8, dI_u16, dI_u32, dB_bool, dS_slice, dP_ptr, dT_tup, dA_agg, dStr_str, dF_f, dC_c, dM_m, optP_some, ga0, ga1, ga2, ga3, ga4, cond_true, cond_false, chk_true, Bool.not_true, Bool.not_false, Option.isNone_none, Option.isNone_some]
      rintro b w4 rfl rfl
      refine appP_own (B := w.heap.size) ((ho.ex h3).ex (Ex.alloc w3 _)) ((h2.trans h3).trans (Ex.alloc w3 _)).size [Value.int .i64 (cut1 k xs m)] (CellsO.alloc _ _) rfl (by simp [Value.oneCell']) rfl (by omega) (by omega) ?_
      intro p2 c2 w5 ho5 hk5
      have hex : Ex w w5 := ex_ge (Kp.trans ((h2.trans h3).trans (Ex.alloc w3 _)) hk5 (fun _ _ h => h.elim) (fun i hi ⟨a, ha, hai⟩ => by have := (ho.ge ha).1; omega))
      refine chkd_of (by omega) (chkd_of (by omega) ⟨⟨rfl, by omega, ?_, ?_, ?_, hex⟩, ?_⟩)
      · rw [Nat.add_mul]; omega
      · have := CellsO.slice hcs c1 k (n1 - k) (by simp [v8, hdl]; omega)
        rw [v8, ← List.map_drop, ← List.map_take, List.drop_drop, List.take_of_length_le (by rw [List.length_drop]; omega)] at this
        rw [Nat.add_mul, Nat.one_mul]
        exact this
      · rw [unL_snoc]; simpa [v64] using ho5
      · omega
    · rw [condd_neg h0]
      have : n1 = 0 := by omega
      subst this
      have : m = q := Nat.eq_of_mul_eq_mul_right (by omega) hm
      subst this
      exact Ret.mk ⟨r, m, d, rfl, by omega, ho, h2⟩
  · rw [cond_pos (by simp; omega), if_neg hz, if_neg hz]
    exact Ret.mk ⟨none, 0, 0, rfl, by omega, Own.nil _ _ _ _, h1⟩

theorem refUnrow_spec (p : Option Addr) (n c : Nat) (xs : List Int) (s : Int) (w : World) (hc : CellsO w p (v8 xs)) (hn : xs.length = n) (hl : n ≤ 8388608) (hb : ∀ x ∈ xs, 0 ≤ x ∧ x < 256) :
    stopcockref04_Unrow.C p n c s w (Ret fun v w' => ∃ p' n' c', v = .tuple #[.slice p' n' c', .int .i64 (unE s n)] ∧ n' ≤ n ∧ Own w' w.heap.size ty_int 1 p' n' c' (v64 (unB s xs)) ∧ Ex w w') := by
  apply stopcockref04_Unrow.ok
  unfold stopcockref04_Unrow.main
  by_cases h1 : s < 1
  · obtain ⟨e1, e2⟩ := un_out (.inl h1) n xs
    rw [condd_pos h1, e1, e2]
    exact Ret.mk ⟨none, 0, 0, rfl, by omega, Own.nil _ _ _ _, Ex.refl w⟩
  rw [condd_neg h1]
  by_cases h4 : s > 4
  · obtain ⟨e1, e2⟩ := un_out (.inr h4) n xs
    rw [condd_pos h4, e1, e2]
    exact Ret.mk ⟨none, 0, 0, rfl, by omega, Own.nil _ _ _ _, Ex.refl w⟩
  rw [condd_neg h4]
  obtain ⟨k, rfl⟩ : ∃ k : Nat, s = k := ⟨s.toNat, by omega⟩
  have hk1 : 1 ≤ k := by omega
  have hk4 : k ≤ 4 := by omega
  obtain ⟨e1, e2⟩ := un_in hk1 hk4 n xs
  rw [e1, e2]
  refine chkd_of (by omega) ?_
  have em : Int.tmod (n : Int) (k : Int) = ((n % k : Nat) : Int) := by simp [Int.tmod]
  rw [em, hn]
  by_cases hz : n % k = 0
  · rw [cond_neg (by simp [hz]), if_pos hz, if_pos hz]
    obtain ⟨q, rfl⟩ : ∃ q, n = q * k := ⟨n / k, by rw [Nat.mul_comm]; exact (Nat.mul_div_cancel' (Nat.dvd_of_mod_eq_zero hz)).symm⟩
    rw [Nat.mul_div_cancel _ (by omega)]
    rintro b0 w0 rfl rfl
    unfold stopcockref04_Unrow.l1
    refine ⟨fun p1 n1 c1 s1 r m d i w2 => p = p1 ∧ q * k = n1 ∧ c = c1 ∧ (k : Int) = s1 ∧ i = (m * k : Nat) ∧ m ≤ q ∧ Own w2 w.heap.size ty_int 1 r m d (v64 (unL k m xs)) ∧ Ex w w2,
      fun _ _ _ _ _ _ _ i _ => ((q * k : Nat) - i).toNat, ⟨rfl, rfl, rfl, rfl, by simp, by omega, by simpa [unL, v64] using Own.alloc (w := w) [] 3 1 0 rfl, Ex.alloc _ _⟩, ?_⟩
    rintro _ _ _ _ r m d _ w2 ⟨rfl, rfl, rfl, rfl, rfl, hmq, ho, h2⟩
    unfold stopcockref04_Unrow.b1
    have hle : m * k ≤ q * k := Nat.mul_le_mul_right _ hmq
    have hmm : m ≤ m * k := Nat.le_mul_of_pos_right _ (by omega)
    by_cases h0 : ((m * k : Nat) : Int) < ((q * k : Nat) : Int)
    · rw [condd_pos h0]
      have hlt : m < q := Nat.lt_of_mul_lt_mul_right (a := k) (by omega)
      have hle1 : (m + 1) * k ≤ q * k := Nat.mul_le_mul_right _ hlt
      rw [Nat.add_mul, Nat.one_mul] at hle1
      refine callP.use (refGet_spec p _ c xs (m * k : Nat) k w2 (hc.ex h2) hn (by omega) hb (by omega) (by omega)) ?_
      rintro _ w3 ⟨rfl, h3⟩
      obtain ⟨g1, g2⟩ := get_in (s := k) (at_ := (m * k : Nat)) (xs := xs) (n := q * k) (by omega) (by omega) hn (by omega) (by omega)
      rw [g1, g2]
      try dsimp only [dI_i64, dI_u8, dI_u16, dI_u32, dB_bool, dS_slice, dP_ptr, dT_tup, dA_agg, dStr_str, dF_f, dC_c, dM_m, optP_some, ga0, ga1, ga2, ga3, ga4, cond_true, cond_false, chk_true, Bool.not_true, Bool.not_false, Option.isNone_none, Option.isNone_some]
      rintro b w4 rfl rfl
      rw [Int.toNat_natCast, Int.toNat_natCast]
      refine appP_own (B := w.heap.size) ((ho.ex h3).ex (Ex.alloc w3 _)) ((h2.trans h3).trans (Ex.alloc w3 _)).size [Value.int .i64 (cut1 k xs m)] (CellsO.alloc _ _) rfl (by simp [Value.oneCell']) rfl (by omega) (by omega) ?_
      intro p2 c2 w5 ho5 hk5
      have hex : Ex w w5 := ex_ge (Kp.trans ((h2.trans h3).trans (Ex.alloc w3 _)) hk5 (fun _ _ h => h.elim) (fun i hi ⟨a, ha, hai⟩ => by have := (ho.ge ha).1; omega))
      rw [w64 (by omega) (by omega)]
      refine ⟨⟨rfl, rfl, rfl, rfl, by rw [Nat.add_mul]; omega, by omega, ?_, hex⟩, by ((try dsimp only); omega)⟩
      rw [unL_snoc]; simpa [v64] using ho5
    · rw [condd_neg h0]
      have : m = q := by
        have : m * k = q * k := by omega
        exact Nat.eq_of_mul_eq_mul_right (by omega) this
      subst this
      exact Ret.mk ⟨r, m, d, rfl, by omega, ho, h2⟩
  · rw [cond_pos (by simp; omega), if_neg hz, if_neg hz]
    exact Ret.mk ⟨none, 0, 0, rfl, by omega, Own.nil _ _ _ _, Ex.refl w⟩

/-! ### Ints: are two rows of numbers the same? -/
theorem Ints_spec (p : Option Addr) (n c : Nat) (q : Option Addr) (m d : Nat) (xs ys : List Int) (w : World) (hc : CellsO w p (v64 xs)) (hn : xs.length = n) (hd : CellsO w q (v64 ys)) (hm : ys.length = m) (hl : n ≤ 9223372036854775806) :
    stopcockref01_Ints.C p n c q m d w (Ret fun v w' => v = .bool (decide (xs = ys)) ∧ Ex w w') := by
  apply stopcockref01_Ints.ok
  unfold stopcockref01_Ints.main
  by_cases hnm : n = m
  · subst hnm
    rw [cond_neg (by simp)]
    unfold stopcockref01_Ints.l1
    refine ⟨fun p1 n1 c1 q1 m1 d1 i w2 => p = p1 ∧ n = n1 ∧ c = c1 ∧ q = q1 ∧ n = m1 ∧ d = d1 ∧ ∃ j : Nat, i = j ∧ j ≤ n ∧ xs.take j = ys.take j ∧ Ex w w2, fun _ _ _ _ _ _ i _ => (n - i).toNat,
      ⟨rfl, rfl, rfl, rfl, rfl, rfl, 0, rfl, by omega, rfl, Ex.refl w⟩, ?_⟩
    rintro _ _ _ _ _ _ _ w2 ⟨rfl, rfl, rfl, rfl, rfl, rfl, j, rfl, hj, he, h2⟩
    unfold stopcockref01_Ints.b1
    by_cases hlt : (j : Int) < n
    · rw [condd_pos hlt]
      have hjx : j < xs.length := by omega
      have hjy : j < ys.length := by omega
      obtain ⟨a1, hp1, hcell1⟩ := CellsO.map_get (hc.ex h2) hjx
      obtain ⟨a2, hp2, hcell2⟩ := CellsO.map_get (hd.ex h2) hjy
      refine chkd_of (by omega) (chkd_of (by omega) (optP_of hp1 ⟨xs[j], by simpa using hcell1, chkd_of (by omega) (chkd_of (by omega) (optP_of hp2 ⟨ys[j], by simpa using hcell2, fun k1 => ?_⟩))⟩))
      by_cases hxy : xs[j] = ys[j]
      · rw [cond_neg (by simp [hxy]), w64 (by omega) (by omega)]
        refine ⟨⟨rfl, rfl, rfl, rfl, rfl, rfl, j + 1, by omega, by omega, ?_, h2.trans (Ex.drewN _ _)⟩, by ((try dsimp only); omega)⟩
        rw [List.take_succ_eq_append_getElem hjx, List.take_succ_eq_append_getElem hjy, he, hxy]
      · rw [cond_pos (by simp [hxy])]
        refine Ret.mk ⟨?_, h2.trans (Ex.drewN _ _)⟩
        have : xs ≠ ys := fun e => hxy (by subst e; rfl)
        simp [this]
    · rw [condd_neg hlt]
      have : j = xs.length := by omega
      subst this
      rw [List.take_length, List.take_of_length_le (by omega)] at he
      exact Ret.mk ⟨by simp [he], h2⟩
  · rw [cond_pos (by simp; omega)]
    have : xs ≠ ys := fun e => hnm (by subst e; omega)
    exact Ret.mk ⟨by simp [this], Ex.refl w⟩
end Go.Proofs.Ytlcnjadfkpkgjaa.G
