/- What the functions of cell's reference compute, and the reading ones. Conditions: lengths below 2^47. -/
import Derived.Test.YtlcnjadfkpkgjaaCellA
namespace Go.Proofs.Ytlcnjadfkpkgjaa.G
open Go.Dec Go.RowKit
set_option linter.unusedVariables false
set_option linter.unusedSimpArgs false

theorem pow256_mono {i j : Nat} (h : i ≤ j) : (256 : Int) ^ i ≤ 256 ^ j := by
  have := Nat.pow_le_pow_right (n := 256) (by omega) h
  rw [show (256 : Int) = ((256 : Nat) : Int) from rfl, ← Int.natCast_pow, ← Int.natCast_pow]
  exact Int.ofNat_le.2 this
theorem putE_nat {s : Nat} (h1 : 1 ≤ s) (h4 : s ≤ 4) (x : Int) : putE s x = if okNum s x then 0 else 5 := by
  have : (decide (1 ≤ (s : Int)) && decide ((s : Int) ≤ 4)) = true := by simp; omega
  simp [putE, this]
theorem putB_nat {s : Nat} (h1 : 1 ≤ s) (h4 : s ≤ 4) (xs : List Int) (x : Int) : putB xs s x = if okNum s x then xs ++ be s x else [] := by
  have : (decide (1 ≤ (s : Int)) && decide ((s : Int) ≤ 4)) = true := by simp; omega
  simp [putB, this]
theorem put_out {s : Int} (h : s < 1 ∨ 4 < s) (xs : List Int) (x : Int) : putE s x = 1 ∧ putB xs s x = [] := by
  have : (decide (1 ≤ s) && decide (s ≤ 4)) = false := by simp; omega
  simp [putE, putB, this]
theorem limit_spec (k : Nat) (hk : k ≤ 4) (w : World) : stopcockref04_limit.C k w (Ret fun v w' => v = .int .i64 (256 ^ k) ∧ Ex w w') := by
  apply stopcockref04_limit.ok
  unfold stopcockref04_limit.main
  refine ⟨fun a b i w1 => a = k ∧ ∃ j : Nat, i = j ∧ j ≤ k ∧ b = 256 ^ j ∧ w1 = w, fun _ _ i _ => (k - i).toNat, ⟨rfl, 0, rfl, by omega, rfl, rfl⟩, ?_⟩
  rintro _ b i w1 ⟨rfl, j, rfl, hj, rfl, rfl⟩
  unfold stopcockref04_limit.b1
  by_cases h : (j : Int) < k
  · rw [condd_pos h]
    have hb : (256 : Int) ^ j * 256 = 256 ^ (j + 1) := by rw [Int.pow_succ]
    have hle : (256 : Int) ^ (j + 1) ≤ 256 ^ 4 := pow256_mono (by omega)
    have hp : (0 : Int) < 256 ^ (j + 1) := Int.pow_pos (by omega)
    have h4 : (256 : Int) ^ 4 = 4294967296 := by decide
    rw [w64 (by omega) (by omega), w64 (by omega) (by omega)]
    exact ⟨⟨rfl, j + 1, by omega, by omega, hb, rfl⟩, by ((try dsimp only); omega)⟩
  · rw [condd_neg h]
    have : j = k := by omega
    subst this
    exact Ret.mk ⟨rfl, Ex.refl _⟩

theorem pow_le4 {j : Nat} (h : j ≤ 4) : (0 : Int) < 256 ^ j ∧ (256 : Int) ^ j ≤ 4294967296 :=
  ⟨Int.pow_pos (by omega), by have : (256 : Int) ^ j ≤ 256 ^ 4 := pow256_mono h
                              have h4 : (256 : Int) ^ 4 = 4294967296 := by decide
                              omega⟩
theorem ref_byte {x : Int} (h0 : 0 ≤ x) (h1 : x ≤ 9223372036854775807) {j : Nat} (hj : j ≤ 4) : IntKind.u8.wrap (Int.tmod (IntKind.i64.wrap (Int.tdiv x (256 ^ j))) 256) = x / 256 ^ j % 256 := by
  obtain ⟨hp, hq⟩ := pow_le4 hj
  rw [Int.tdiv_eq_ediv_of_nonneg h0]
  have hd0 : 0 ≤ x / 256 ^ j := Int.ediv_nonneg h0 (by omega)
  have hd1 : x / 256 ^ j ≤ x := Int.ediv_le_self _ h0
  rw [w64 (by omega) (by omega), Int.tmod_eq_emod_of_nonneg hd0, wu8]
  omega
/-- The reference's Put answers the same. -/
theorem refPut_spec (p : Option Addr) (n c : Nat) (xs : List Int) (s x : Int) (w : World) (hc : CellsO w p (v8 xs)) (hn : xs.length = n) (hl : n ≤ 140737488351232) (hx : x ≤ 9223372036854775807) :
    stopcockref04_Put.C p n c s x w (Ret fun v w' => ∃ p' n' c', v = .tuple #[.slice p' n' c', .int .i64 (putE s x)] ∧ n' ≤ n + 4 ∧ Own w' w.heap.size ty_uint8 1 p' n' c' (v8 (putB xs s x)) ∧ Ex w w') := by
  apply stopcockref04_Put.ok
  unfold stopcockref04_Put.main
  by_cases h1 : s < 1
  · obtain ⟨e1, e2⟩ := put_out (.inl h1) xs x
    rw [condd_pos h1, e1, e2]
    exact Ret.mk ⟨none, 0, 0, rfl, by omega, Own.nil _ _ _ _, Ex.refl _⟩
  rw [condd_neg h1]
  by_cases h4 : s > 4
  · obtain ⟨e1, e2⟩ := put_out (.inr h4) xs x
    rw [condd_pos h4, e1, e2]
    exact Ret.mk ⟨none, 0, 0, rfl, by omega, Own.nil _ _ _ _, Ex.refl _⟩
  rw [condd_neg h4]
  obtain ⟨s, rfl⟩ : ∃ k : Nat, s = k := ⟨s.toNat, by omega⟩
  rw [putE_nat (by omega) (by omega), putB_nat (by omega) (by omega)]
  by_cases h0 : x < 0
  · rw [condd_pos h0, show okNum s x = false by simp [okNum]; omega]
    exact Ret.mk ⟨none, 0, 0, rfl, by omega, Own.nil _ _ _ _, Ex.refl _⟩
  rw [condd_neg h0]
  refine callP.use (limit_spec s (by omega) w) ?_
  rintro _ w1 ⟨rfl, hk1⟩
  try dsimp only [dI_i64, dI_u8, dI_u16, dI_u32, dB_bool, dS_slice, dP_ptr, dT_tup, dA_agg, dStr_str, dF_f, dC_c, dM_m, optP_some, ga0, ga1, ga2, ga3, ga4, cond_true, cond_false, chk_true, Bool.not_true, Bool.not_false, Option.isNone_none, Option.isNone_some]
  obtain ⟨hp, hq⟩ := pow_le4 (j := s) (by omega)
  by_cases hlim : x ≥ 256 ^ s
  · rw [condd_pos hlim, show okNum s x = false by simp [okNum]; omega]
    exact Ret.mk ⟨none, 0, 0, rfl, by omega, Own.nil _ _ _ _, hk1⟩
  rw [condd_neg hlim, show okNum s x = true by simp [okNum]; omega]
  intro b1 w2 hb hw
  subst hb hw
  have hka := Ex.alloc w1 (.cells #[] 5)
  refine appP_own (B := w.heap.size) ((Own.alloc (w := w1) [] 5 1 0 rfl).lower hk1.size) (Nat.le_trans hk1.size hka.size) (v8 xs) (hc.ex (hk1.trans hka)) (by simpa using hn) (vals_one _ _) rfl (by omega) (by omega) ?_
  intro p1 c1 w3 ho3 hk3
  have hk3' : Ex w w3 := Kp.trans (hk1.trans hka) hk3 (fun _ _ h => h) (fun i hi ⟨a, ha, hai⟩ => by cases ha; have := hk1.size; dsimp only at hai; omega)
  rw [w64 (by omega) (by omega)]
  refine ⟨fun x1 p1 n1 c1 k1 w1 => x1 = x ∧ -1 ≤ k1 ∧ k1 < s ∧ ∃ ys, ys ++ be (k1 + 1).toNat x = xs ++ be s x ∧ n1 + (k1 + 1).toNat = n + s ∧ Own w1 w.heap.size ty_uint8 1 p1 n1 c1 (v8 ys) ∧ Ex w w1, fun _ _ _ _ k1 _ => (k1 + 1).toNat,
    ⟨rfl, by omega, by omega, xs, by rw [show ((s : Int) - 1 + 1).toNat = s by omega], by omega, by simpa [v8] using ho3, hk3'⟩, ?_⟩
  rintro x1 p1 n1 c1 k1 w1 ⟨rfl, hk0, hks, ys, hys, hn1, ho1, hkp⟩
  unfold stopcockref04_Put.b1
  by_cases hk : k1 ≥ 0
  · rw [condd_pos hk]
    obtain ⟨j, rfl⟩ : ∃ j : Nat, k1 = j := ⟨k1.toNat, by omega⟩
    refine callP.use (limit_spec j (by omega) w1) ?_
    rintro _ w4 ⟨rfl, hk4⟩
    try dsimp only [dI_i64, dI_u8, dI_u16, dI_u32, dB_bool, dS_slice, dP_ptr, dT_tup, dA_agg, dStr_str, dF_f, dC_c, dM_m, optP_some, ga0, ga1, ga2, ga3, ga4, cond_true, cond_false, chk_true, Bool.not_true, Bool.not_false, Option.isNone_none, Option.isNone_some]
    obtain ⟨hpj, hqj⟩ := pow_le4 (j := j) (by omega)
    refine chkd_of (by omega) ?_
    rw [ref_byte (by omega) hx (by omega)]
    intro b1 w5 hb hw
    subst hb hw
    have hk5 : Ex w (w4.alloc (.cells #[Value.int .u8 (x1 / 256 ^ j % 256)] 5)) := (hkp.trans hk4).trans (Ex.alloc _ _)
    refine appP_own (B := w.heap.size) ((ho1.ex hk4).ex (Ex.alloc w4 _)) hk5.size [Value.int .u8 (x1 / 256 ^ j % 256)] (CellsO.alloc _ _) rfl (by simp [Value.oneCell']) rfl (by omega) (by omega) ?_
    intro p' c' w' ho2 hk2
    rw [w64 (by omega) (by omega)]
    refine ⟨⟨rfl, by omega, by omega, ys ++ [x1 / 256 ^ j % 256], ?_, by omega, by simpa [v8] using ho2, ?_⟩, by ((try dsimp only); omega)⟩
    · rw [← hys, List.append_assoc]
      congr 1
      rw [show ((j : Int) - 1 + 1).toNat = j by omega, show ((j : Int) + 1).toNat = j + 1 by omega]
      rfl
    · refine Kp.trans hk5 hk2 (fun _ _ h => h) ?_
      rintro i hi ⟨a, ha, rfl⟩
      have := (ho1.ge ha).1
      omega
  · rw [condd_neg hk]
    have : (k1 + 1).toNat = 0 := by omega
    rw [this] at hys
    simp only [be, List.append_nil] at hys
    subst hys
    exact Ret.mk ⟨p1, n1, c1, rfl, by omega, by simpa using ho1, hkp⟩

/-! ### Bytes as numbers -/
def num (l : List Int) : Int := l.foldl (fun a x => a * 256 + x) 0
theorem num_snoc (l : List Int) (x : Int) : num (l ++ [x]) = num l * 256 + x := by simp [num]
theorem snoc_ind {α : Type} {p : List α → Prop} (h0 : p []) (h1 : ∀ l x, p l → p (l ++ [x])) : ∀ l, p l := fun l => by
  have key : ∀ r : List α, p r.reverse := by
    intro r
    induction r with
    | nil => exact h0
    | cons x r ih => rw [List.reverse_cons]; exact h1 _ _ ih
  have := key l.reverse
  rwa [List.reverse_reverse] at this
theorem num_bound : ∀ (l : List Int), (∀ x ∈ l, 0 ≤ x ∧ x < 256) → 0 ≤ num l ∧ num l < 256 ^ l.length := by
  refine snoc_ind (fun _ => by simp [num]) fun l x ih h => ?_
  obtain ⟨h0, h1⟩ := ih fun y hy => h y (by simp [hy])
  obtain ⟨hx0, hx1⟩ := h x (by simp)
  rw [num_snoc, List.length_append, List.length_singleton, Int.pow_succ]
  omega
theorem or_byte {a x : Int} (h0 : 0 ≤ a) (h1 : a < 4294967296) (hx0 : 0 ≤ x) (hx1 : x < 256) :
    IntKind.i64.wrap (BitVec.ofInt IntKind.i64.bits (IntKind.i64.wrap (a * 2 ^ (min 8 IntKind.i64.bits))) ||| BitVec.ofInt IntKind.i64.bits (IntKind.i64.wrap x)).toNat = a * 256 + x := by
  have e1 : a * 2 ^ (min 8 IntKind.i64.bits) = a * 256 := rfl
  rw [e1, w64 (x := a * 256) (by omega) (by omega), w64 (x := x) (by omega) (by omega)]
  obtain ⟨a, rfl⟩ := Int.eq_ofNat_of_zero_le h0
  obtain ⟨x, rfl⟩ := Int.eq_ofNat_of_zero_le hx0
  have e2 : (BitVec.ofInt IntKind.i64.bits ((a : Int) * 256) ||| BitVec.ofInt IntKind.i64.bits (x : Int)).toNat = a * 256 + x := by
    rw [BitVec.toNat_or, show ((a : Int) * 256) = ((a * 256 : Nat) : Int) by simp, BitVec.ofInt_natCast, BitVec.ofInt_natCast, BitVec.toNat_ofNat, BitVec.toNat_ofNat]
    show a * 256 % 2 ^ 64 ||| x % 2 ^ 64 = _
    rw [Nat.mod_eq_of_lt (by omega), Nat.mod_eq_of_lt (by omega)]
    have := Nat.shiftLeft_add_eq_or_of_lt (i := 8) (b := x) (by omega) a
    rw [Nat.shiftLeft_eq] at this
    exact this.symm
  rw [e2, w64 (by omega) (by omega)]
  omega
theorem CellsO.map_get {w : World} {k : IntKind} {p : Option Addr} {xs : List Int} (hc : CellsO w p (xs.map (Value.int k))) {j : Nat} (hj : j < xs.length) : ∃ a, p = some a ∧ w.cell? (a.add j) = some (.int k xs[j]) := by
  cases p with
  | none => have : xs.map (Value.int k) = [] := hc; simp at this; subst this; simp at hj
  | some a => exact ⟨a, rfl, hc j _ (by simp [hj])⟩
/-- cell.get -/
theorem get_spec (p : Option Addr) (n c : Nat) (xs : List Int) (w : World) (hc : CellsO w p (v8 xs)) (hn : xs.length = n) (h4 : n ≤ 4) (hb : ∀ x ∈ xs, 0 ≤ x ∧ x < 256) :
    cell_get.C p n c w (Ret fun v w' => v = .int .i64 (num xs) ∧ Ex w w') := by
  apply cell_get.ok
  unfold cell_get.main
  refine ⟨fun a p1 n1 c1 t i w1 => p = p1 ∧ n = n1 ∧ c = c1 ∧ (n : Int) = t ∧ ∃ j : Nat, i = j ∧ j ≤ n ∧ num (xs.take j) = a ∧ w = w1, fun _ _ _ _ _ i _ => (n - i).toNat, ⟨rfl, rfl, rfl, rfl, 0, rfl, by omega, rfl, rfl⟩, ?_⟩
  rintro a _ _ _ _ i w1 ⟨rfl, rfl, rfl, rfl, j, rfl, hj, rfl, rfl⟩
  unfold cell_get.b1
  by_cases h : (j : Int) < n
  · rw [condd_pos h]
    obtain ⟨a1, hp1, hcell⟩ := CellsO.map_get hc (j := j) (by omega)
    refine chkd_of (by omega) (chkd_of h (optP_of hp1 ?_))
    have hlt : j < xs.length := by omega
    refine ⟨xs[j], by simpa using hcell, ?_⟩
    obtain ⟨h0, h1⟩ := num_bound (xs.take j) fun x hx => hb x (List.mem_of_mem_take hx)
    have hle : (256 : Int) ^ (xs.take j).length ≤ 4294967296 := (pow_le4 (by simp; omega)).2
    obtain ⟨hx0, hx1⟩ := hb xs[j] (List.getElem_mem _)
    rw [or_byte h0 (by omega) hx0 hx1, w64 (by omega) (by omega)]
    refine ⟨⟨rfl, rfl, rfl, rfl, j + 1, by omega, by omega, ?_, rfl⟩, by ((try dsimp only); omega)⟩
    rw [List.take_succ_eq_append_getElem hlt, num_snoc]
  · rw [condd_neg h]
    have : j = n := by omega
    subst this
    rw [List.take_of_length_le (by omega)]
    exact Ret.mk ⟨rfl, Ex.refl _⟩
def getE (n : Nat) (at_ s : Int) : Int := if decide (1 ≤ s) && decide (s ≤ 4) then (if decide (0 ≤ at_) && decide (at_ + s ≤ n) then 0 else 3) else 1
def getN (xs : List Int) (at_ s : Int) : Int := if decide (1 ≤ s) && decide (s ≤ 4) then (if decide (0 ≤ at_) && decide (at_ + s ≤ xs.length) then num ((xs.drop at_.toNat).take s.toNat) else 0) else 0
theorem get_out {s : Int} (h : s < 1 ∨ 4 < s) (xs : List Int) (n : Nat) (at_ : Int) : getN xs at_ s = 0 ∧ getE n at_ s = 1 := by
  have : (decide (1 ≤ s) && decide (s ≤ 4)) = false := by simp; omega
  simp [getN, getE, this]
theorem get_short {s at_ : Int} (h1 : 1 ≤ s) (h4 : s ≤ 4) {xs : List Int} {n : Nat} (hn : xs.length = n) (h : at_ < 0 ∨ (n : Int) < at_ + s) : getN xs at_ s = 0 ∧ getE n at_ s = 3 := by
  have e1 : (decide (1 ≤ s) && decide (s ≤ 4)) = true := by simp; omega
  have e2 : (decide (0 ≤ at_) && decide (at_ + s ≤ (n : Int))) = false := by simp; omega
  simp [getN, getE, e1, hn, e2]
theorem get_in {s at_ : Int} (h1 : 1 ≤ s) (h4 : s ≤ 4) {xs : List Int} {n : Nat} (hn : xs.length = n) (h0 : 0 ≤ at_) (h : at_ + s ≤ n) : getN xs at_ s = num ((xs.drop at_.toNat).take s.toNat) ∧ getE n at_ s = 0 := by
  have e1 : (decide (1 ≤ s) && decide (s ≤ 4)) = true := by simp; omega
  have e2 : (decide (0 ≤ at_) && decide (at_ + s ≤ (n : Int))) = true := by simp; omega
  simp [getN, getE, e1, hn, e2]
theorem Get_spec (p : Option Addr) (n c : Nat) (xs : List Int) (at_ s : Int) (w : World) (hc : CellsO w p (v8 xs)) (hn : xs.length = n) (hcap : n ≤ c) (hl : n ≤ 140737488351232) (hb : ∀ x ∈ xs, 0 ≤ x ∧ x < 256)
    (ha0 : -9223372036854775808 ≤ at_) (ha : at_ ≤ 9223372036854775807) :
    cell_Get.C p n c at_ s w (Ret fun v w' => v = .tuple #[.int .i64 (getN xs at_ s), .int .i64 (getE n at_ s)] ∧ Ex w w') := by
  apply cell_Get.ok
  unfold cell_Get.main
  refine callP.use (size_spec s w) ?_
  rintro _ w1 ⟨rfl, h1⟩
  try dsimp only [dI_i64, dI_u8, dI_u16, dI_u32, dB_bool, dS_slice, dP_ptr, dT_tup, dA_agg, dStr_str, dF_f, dC_c, dM_m, optP_some, ga0, ga1, ga2, ga3, ga4, cond_true, cond_false, chk_true, Bool.not_true, Bool.not_false, Option.isNone_none, Option.isNone_some]
  cases hsz : (decide (1 ≤ s) && decide (s ≤ 4)) with
  | false =>
    simp only [Bool.not_true, Bool.not_false, cond_true, cond_false]
    obtain ⟨e1, e2⟩ := get_out (s := s) (by simp at hsz; omega) xs n at_
    rw [e1, e2]
    exact Ret.mk ⟨rfl, h1⟩
  | true =>
    simp only [Bool.not_true, Bool.not_false, cond_true, cond_false]
    simp only [Bool.and_eq_true, decide_eq_true_eq] at hsz
    by_cases hlt : at_ < 0
    · obtain ⟨e1, e2⟩ := get_short hsz.1 hsz.2 hn (.inl hlt)
      rw [condd_pos hlt, e1, e2]
      exact Ret.mk ⟨rfl, h1⟩
    rw [condd_neg hlt]
    rw [w64 (x := (n : Int) - s) (by omega) (by omega)]
    by_cases hgt : at_ > n - s
    · obtain ⟨e1, e2⟩ := get_short hsz.1 hsz.2 hn (at_ := at_) (.inr (by omega))
      rw [condd_pos hgt, e1, e2]
      exact Ret.mk ⟨rfl, h1⟩
    obtain ⟨e1, e2⟩ := get_in hsz.1 hsz.2 hn (at_ := at_) (by omega) (by omega)
    rw [condd_neg hgt, e1, e2]
    rw [w64 (x := at_ + s) (by omega) (by omega)]
    refine chkd_of (by omega) (chkd_of (by omega) (chkd_of (by omega) (chkd_of (by omega) ?_)))
    have hsub : (at_ + s).toNat - at_.toNat = s.toNat := by omega
    rw [hsub]
    have hcs : CellsO w1 (slA p c at_.toNat 1) (v8 ((xs.drop at_.toNat).take s.toNat)) := by
      have := CellsO.slice (hc.ex h1) c at_.toNat s.toNat (by simp; omega)
      simpa [v8, List.map_take, List.map_drop] using this
    refine callP.use (get_spec _ s.toNat _ ((xs.drop at_.toNat).take s.toNat) w1 hcs (by simp; omega) (by omega) fun x hx => hb x (List.mem_of_mem_drop (List.mem_of_mem_take hx))) ?_
    rintro _ w2 ⟨rfl, h2⟩
    try dsimp only [dI_i64, dI_u8, dI_u16, dI_u32, dB_bool, dS_slice, dP_ptr, dT_tup, dA_agg, dStr_str, dF_f, dC_c, dM_m, optP_some, ga0, ga1, ga2, ga3, ga4, cond_true, cond_false, chk_true, Bool.not_true, Bool.not_false, Option.isNone_none, Option.isNone_some]
    exact Ret.mk ⟨rfl, h1.trans h2⟩
theorem refGet_spec (p : Option Addr) (n c : Nat) (xs : List Int) (at_ s : Int) (w : World) (hc : CellsO w p (v8 xs)) (hn : xs.length = n) (hl : n ≤ 140737488351232) (hb : ∀ x ∈ xs, 0 ≤ x ∧ x < 256)
    (ha0 : -9223372036854775808 ≤ at_) (ha : at_ ≤ 9223372036854775807) :
    stopcockref04_Get.C p n c at_ s w (Ret fun v w' => v = .tuple #[.int .i64 (getN xs at_ s), .int .i64 (getE n at_ s)] ∧ Ex w w') := by
  apply stopcockref04_Get.ok
  unfold stopcockref04_Get.main
  by_cases h1 : s < 1
  · obtain ⟨e1, e2⟩ := get_out (.inl h1) xs n at_
    rw [condd_pos h1, e1, e2]
    exact Ret.mk ⟨rfl, Ex.refl _⟩
  rw [condd_neg h1]
  by_cases h4 : s > 4
  · obtain ⟨e1, e2⟩ := get_out (.inr h4) xs n at_
    rw [condd_pos h4, e1, e2]
    exact Ret.mk ⟨rfl, Ex.refl _⟩
  rw [condd_neg h4]
  by_cases hlt : at_ < 0
  · obtain ⟨e1, e2⟩ := get_short (s := s) (by omega) (by omega) hn (.inl hlt)
    rw [condd_pos hlt, e1, e2]
    exact Ret.mk ⟨rfl, Ex.refl _⟩
  rw [condd_neg hlt]
  by_cases hgt : at_ > n
  · obtain ⟨e1, e2⟩ := get_short (s := s) (at_ := at_) (by omega) (by omega) hn (.inr (by omega))
    rw [condd_pos hgt, e1, e2]
    exact Ret.mk ⟨rfl, Ex.refl _⟩
  rw [condd_neg hgt, w64 (x := (n : Int) - at_) (by omega) (by omega)]
  by_cases hsh : (n : Int) - at_ < s
  · obtain ⟨e1, e2⟩ := get_short (s := s) (at_ := at_) (by omega) (by omega) hn (.inr (by omega))
    rw [condd_pos hsh, e1, e2]
    exact Ret.mk ⟨rfl, Ex.refl _⟩
  obtain ⟨e1, e2⟩ := get_in (s := s) (at_ := at_) (by omega) (by omega) hn (by omega) (by omega)
  rw [condd_neg hsh, e1, e2]
  refine ⟨fun p1 n1 c1 a1 s1 v i w1 => p = p1 ∧ n = n1 ∧ c = c1 ∧ at_ = a1 ∧ s = s1 ∧ ∃ j : Nat, i = j ∧ j ≤ s.toNat ∧ num ((xs.drop at_.toNat).take j) = v ∧ w = w1, fun _ _ _ _ _ _ i _ => (s - i).toNat, ⟨rfl, rfl, rfl, rfl, rfl, 0, rfl, by omega, rfl, rfl⟩, ?_⟩
  rintro p1 n1 c1 a1 s1 v i w1 ⟨rfl, rfl, rfl, rfl, rfl, j, rfl, hj, rfl, rfl⟩
  unfold stopcockref04_Get.b1
  by_cases h : (j : Int) < s
  · rw [condd_pos h, w64 (x := at_ + j) (by omega) (by omega)]
    have hlt : at_.toNat + j < xs.length := by omega
    obtain ⟨ad, hp1, hcell⟩ := CellsO.map_get hc (j := at_.toNat + j) hlt
    refine chkd_of (by omega) (chkd_of (by omega) (optP_of hp1 ?_))
    have e1 : (at_ + (j : Int)).toNat = at_.toNat + j := by omega
    refine ⟨xs[at_.toNat + j], by rw [e1, Nat.mul_one]; exact hcell, ?_⟩
    have hd : ((xs.drop at_.toNat).take j).length = j := by simp; omega
    obtain ⟨h0, h1⟩ := num_bound ((xs.drop at_.toNat).take j) fun x hx => hb x (List.mem_of_mem_drop (List.mem_of_mem_take hx))
    have hle : (256 : Int) ^ ((xs.drop at_.toNat).take j).length ≤ 256 ^ 3 := pow256_mono (by omega)
    have h3 : (256 : Int) ^ 3 = 16777216 := by decide
    obtain ⟨hx0, hx1⟩ := hb xs[at_.toNat + j] (List.getElem_mem _)
    rw [w64 (x := num ((xs.drop at_.toNat).take j) * 256) (by omega) (by omega), w64 (x := xs[at_.toNat + j]) (by omega) (by omega), w64 (by omega) (by omega), w64 (by omega) (by omega)]
    refine ⟨⟨rfl, rfl, rfl, rfl, rfl, j + 1, by omega, by omega, ?_, rfl⟩, by ((try dsimp only); omega)⟩
    have hjl : j < (xs.drop at_.toNat).length := by simp; omega
    rw [List.take_succ_eq_append_getElem hjl, num_snoc, List.getElem_drop]
  · rw [condd_neg h]
    have : j = s.toNat := by omega
    subst this
    exact Ret.mk ⟨rfl, Ex.refl _⟩
end Go.Proofs.Ytlcnjadfkpkgjaa.G
