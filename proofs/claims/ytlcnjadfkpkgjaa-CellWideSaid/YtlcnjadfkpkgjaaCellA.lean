/- What the functions of cell and of its reference compute. Conditions: lengths below 2^47. -/
import Derived.Test.YtlcnjadfkpkgjaaG1
import Derived.Test.YtlcnjadfkpkgjaaG2
import Derived.Test.YtlcnjadfkpkgjaaDecU
namespace Go.Proofs.Ytlcnjadfkpkgjaa.G
open Go.Dec Go.RowKit
set_option linter.unusedVariables false
set_option linter.unusedSimpArgs false

/-! ### Numbers as bytes -/
def be : Nat → Int → List Int
  | 0, _ => []
  | k + 1, n => (n / 256 ^ k) % 256 :: be k n
theorem be_length : ∀ (k : Nat) (n : Int), (be k n).length = k
  | 0, _ => rfl
  | k + 1, n => by simp [be, be_length k n]
theorem be_byte : ∀ (k : Nat) (n : Int), ∀ x ∈ be k n, 0 ≤ x ∧ x < 256
  | 0, _, x, h => by simp [be] at h
  | k + 1, n, x, h => by
    simp only [be, List.mem_cons] at h
    rcases h with rfl | h
    · omega
    · exact be_byte k n x h
abbrev v8 (xs : List Int) : List Value := xs.map (Value.int .u8)
def okNum (s : Nat) (x : Int) : Bool := decide (0 ≤ x) && decide (x < 256 ^ s)

theorem size_spec (n : Int) (w : World) : cell_size.C n w (Ret fun v w' => v = .bool (decide (1 ≤ n) && decide (n ≤ 4)) ∧ Ex w w') := by
  apply cell_size.ok
  unfold cell_size.main
  refine cond_of (fun h => ?_) (fun h => ?_)
  · refine Ret.mk ⟨?_, Ex.refl w⟩
    have h : 1 ≤ n := of_decide_eq_true h
    simp [h]
  · refine Ret.mk ⟨?_, Ex.refl w⟩
    have h : ¬ 1 ≤ n := of_decide_eq_false h
    simp [h]

theorem clone_spec (p : Option Addr) (n c : Nat) (vs : List Value) (w : World) (hc : CellsO w p vs) (hn : vs.length = n) (h1 : ∀ y ∈ vs, y.oneCell' = true) (hl : n ≤ 140737488355328) :
    bytes_Clone.C p n c w (Ret fun v w' => ∃ p' c', v = .slice p' n c' ∧ Own w' w.heap.size ty_uint8 1 p' n c' vs ∧ Ex w w') := by
  apply bytes_Clone.ok
  unfold bytes_Clone.main
  refine cond_of (fun h => ?_) (fun h => ?_)
  · cases p with
    | some a => simp at h
    | none =>
      have : vs = [] := hc
      subst this
      have : n = 0 := by simpa using hn.symm
      subst this
      exact Ret.mk ⟨none, 0, rfl, Own.nil _ _ _ _, Ex.refl w⟩
  · intro b1 w1 hb hw
    subst hb hw
    refine appP_own (xs := []) (B := w.heap.size) ?_ (Ex.alloc w _).size vs ?_ (by simpa using hn) h1 (by simp) (by omega) (by omega) ?_
    · exact Own.alloc (w := w) [] 5 1 0 rfl
    · exact CellsO.ex (Ex.alloc w _) hc
    · intro p' c' w' ho hk
      refine Ret.mk ⟨p', c', by simp, by simpa using ho, ?_⟩
      exact Kp.trans (Ex.alloc w _) hk (fun _ _ h => h) (fun i hi ⟨x, hx, hxi⟩ => by cases hx; dsimp only at hxi; omega)

theorem fdiv_pow {n : Int} (h0 : 0 ≤ n) {k : Int} {j : Nat} (hk : k = j) (hj : j ≤ 4) : Int.fdiv n (2 ^ (min (IntKind.i64.wrap (8 * k)).toNat IntKind.i64.bits)) = n / 256 ^ j := by
  subst hk
  have e1 : IntKind.i64.wrap (8 * (j : Int)) = 8 * j := w64 (by omega) (by omega)
  rw [e1]
  have e2 : min (8 * (j : Int)).toNat IntKind.i64.bits = 8 * j := by
    show min (8 * (j : Int)).toNat 64 = 8 * j
    omega
  rw [e2, Int.fdiv_eq_ediv_of_nonneg _ (by have : (0 : Int) < 2 ^ (8 * j) := Int.pow_pos (by omega)
                                           omega)]
  congr 1
  rw [Int.pow_mul]
  rfl
theorem div_zero_iff {x m : Int} (h0 : 0 ≤ x) (hm : 0 < m) : x / m = 0 ↔ x < m := by
  constructor
  · intro h
    have := Int.mul_ediv_add_emod x m
    have := Int.emod_lt_of_pos x hm
    rw [h] at *
    omega
  · intro h
    exact Int.ediv_eq_zero_of_lt h0 h

/-- cell.put -/
theorem put_spec (B : Nat) (p : Option Addr) (n c : Nat) (xs : List Int) (s : Nat) (x : Int) (w : World) (ho : Own w B ty_uint8 1 p n c (v8 xs)) (hB : B ≤ w.heap.size) (h1 : 1 ≤ s) (h4 : s ≤ 4) (hl : n ≤ 140737488351232) :
    cell_put.C p n c s x w (Ret fun v w' => ∃ p' n' c', v = .tuple #[.slice p' n' c', .int .i64 (if okNum s x then 0 else 5)] ∧ n' ≤ n + 4 ∧ Own w' B ty_uint8 1 p' n' c' (v8 (if okNum s x then xs ++ be s x else [])) ∧ Kp w w' (fun i => B ≤ i)) := by
  apply cell_put.ok
  unfold cell_put.main
  by_cases hx0 : x < 0
  · rw [condd_pos hx0]
    have : okNum s x = false := by simp [okNum]; omega
    rw [this]
    exact Ret.mk ⟨none, 0, 0, rfl, by omega, Own.nil _ _ _ _, Kp.refl _ _⟩
  · rw [condd_neg hx0]
    have e1 : IntKind.i64.wrap (8 * (s : Int)) = 8 * s := w64 (by omega) (by omega)
    refine chkd_of (by rw [e1]; omega) ?_
    rw [fdiv_pow (by omega) (j := s) rfl h4]
    have hp : (0 : Int) < 256 ^ s := Int.pow_pos (by omega)
    by_cases hx : x < 256 ^ s
    · have hz : x / 256 ^ s = 0 := (div_zero_iff (by omega) hp).2 hx
      have hok : okNum s x = true := by simp [okNum]; exact ⟨by omega, hx⟩
      rw [cond_neg (by simp [hz]), hok, w64 (by omega) (by omega)]
      refine ⟨fun p1 n1 c1 x1 k1 w1 => x1 = x ∧ -1 ≤ k1 ∧ k1 < s ∧ ∃ ys, ys ++ be (k1 + 1).toNat x = xs ++ be s x ∧ n1 + (k1 + 1).toNat = n + s ∧ Own w1 B ty_uint8 1 p1 n1 c1 (v8 ys) ∧ Kp w w1 (fun i => B ≤ i), fun _ _ _ _ k1 _ => (k1 + 1).toNat,
        ⟨rfl, by omega, by omega, xs, by rw [show ((s : Int) - 1 + 1).toNat = s by omega], by omega, ho, Kp.refl _ _⟩, ?_⟩
      rintro p1 n1 c1 x1 k1 w1 ⟨rfl, hk0, hks, ys, hys, hn1, ho1, hkp⟩
      unfold cell_put.b1
      by_cases hk : k1 ≥ 0
      · rw [condd_pos hk]
        obtain ⟨j, rfl⟩ : ∃ j : Nat, k1 = j := ⟨k1.toNat, by omega⟩
        have e2 : IntKind.i64.wrap (8 * (j : Int)) = 8 * j := w64 (by omega) (by omega)
        refine chkd_of (by rw [e2]; omega) ?_
        rw [fdiv_pow (by omega) (j := j) rfl (by omega), wu8]
        intro b1 w2 hb hw
        subst hb hw
        refine appP_own (B := B) (ho1.ex (Ex.alloc w1 _)) (Nat.le_trans (Nat.le_trans hB hkp.size) (Ex.alloc w1 _).size) [Value.int .u8 (x1 / 256 ^ j % 256)] (CellsO.alloc _ _) rfl (by simp [Value.oneCell']) rfl (by omega) (by omega) ?_
        intro p' c' w' ho2 hk2
        rw [w64 (by omega) (by omega)]
        refine ⟨⟨rfl, by omega, by omega, ys ++ [x1 / 256 ^ j % 256], ?_, by omega, by simpa [v8] using ho2, ?_⟩, by ((try dsimp only); omega)⟩
        · rw [← hys, List.append_assoc]
          congr 1
          rw [show ((j : Int) - 1 + 1).toNat = j by omega, show ((j : Int) + 1).toNat = j + 1 by omega]
          rfl
        · refine (hkp.trans (Ex.alloc w1 _) (fun _ _ h => h) (fun _ _ h => h.elim)).trans hk2 (fun _ _ h => h) ?_
          rintro i hi ⟨a, ha, rfl⟩
          exact (ho1.ge ha).1
      · rw [condd_neg hk]
        have : (k1 + 1).toNat = 0 := by omega
        rw [this] at hys
        simp only [be, List.append_nil] at hys
        subst hys
        exact Ret.mk ⟨p1, n1, c1, rfl, by omega, ho1, hkp⟩
    · have hz : x / 256 ^ s ≠ 0 := fun h => hx ((div_zero_iff (by omega) hp).1 h)
      have hok : okNum s x = false := by simp [okNum]; intro _; omega
      rw [cond_pos (by simpa using hz), hok]
      exact Ret.mk ⟨none, 0, 0, rfl, by omega, Own.nil _ _ _ _, Kp.refl _ _⟩

/-- cell.Put: what comes of it. -/
def putE (s x : Int) : Int := if decide (1 ≤ s) && decide (s ≤ 4) then (if okNum s.toNat x then 0 else 5) else 1
def putB (xs : List Int) (s x : Int) : List Int := if decide (1 ≤ s) && decide (s ≤ 4) then (if okNum s.toNat x then xs ++ be s.toNat x else []) else []
theorem Put_spec (p : Option Addr) (n c : Nat) (xs : List Int) (s x : Int) (w : World) (hc : CellsO w p (v8 xs)) (hn : xs.length = n) (hl : n ≤ 140737488351232) :
    cell_Put.C p n c s x w (Ret fun v w' => ∃ p' n' c', v = .tuple #[.slice p' n' c', .int .i64 (putE s x)] ∧ n' ≤ n + 4 ∧ Own w' w.heap.size ty_uint8 1 p' n' c' (v8 (putB xs s x)) ∧ Ex w w') := by
  apply cell_Put.ok
  unfold cell_Put.main
  refine callP.use (size_spec s w) ?_
  rintro _ w1 ⟨rfl, h1⟩
  try dsimp only [dI_i64, dI_u8, dI_u16, dI_u32, dB_bool, dS_slice, dP_ptr, dT_tup, dA_agg, dStr_str, dF_f, dC_c, dM_m, optP_some, ga0, ga1, ga2, ga3, ga4, cond_true, cond_false, chk_true, Bool.not_true, Bool.not_false, Option.isNone_none, Option.isNone_some]
  cases hs : (decide (1 ≤ s) && decide (s ≤ 4)) with
  | false =>
    simp only [Bool.not_true, Bool.not_false, cond_true, cond_false]
    rw [putE, putB, hs]
    exact Ret.mk ⟨none, 0, 0, rfl, by omega, Own.nil _ _ _ _, h1⟩
  | true =>
    simp only [Bool.not_true, Bool.not_false, cond_true, cond_false]
    rw [putE, putB, hs]
    simp only [Bool.and_eq_true, decide_eq_true_eq] at hs
    obtain ⟨s, rfl⟩ : ∃ k : Nat, s = k := ⟨s.toNat, by omega⟩
    refine callP.use (clone_spec p n c (v8 xs) w1 (hc.ex h1) (by simpa using hn) (vals_one _ _) (by omega)) ?_
    rintro _ w2 ⟨p', c', rfl, ho, h2⟩
    try dsimp only [dI_i64, dI_u8, dI_u16, dI_u32, dB_bool, dS_slice, dP_ptr, dT_tup, dA_agg, dStr_str, dF_f, dC_c, dM_m, optP_some, ga0, ga1, ga2, ga3, ga4, cond_true, cond_false, chk_true, Bool.not_true, Bool.not_false, Option.isNone_none, Option.isNone_some]
    refine callP.use (put_spec w.heap.size p' n c' xs s x w2 (ho.lower h1.size) (h1.trans h2).size (by omega) (by omega) hl) ?_
    rintro _ w3 ⟨p3, n3, c3, rfl, hn3, ho3, h3⟩
    try dsimp only [dI_i64, dI_u8, dI_u16, dI_u32, dB_bool, dS_slice, dP_ptr, dT_tup, dA_agg, dStr_str, dF_f, dC_c, dM_m, optP_some, ga0, ga1, ga2, ga3, ga4, cond_true, cond_false, chk_true, Bool.not_true, Bool.not_false, Option.isNone_none, Option.isNone_some]
    exact Ret.mk ⟨p3, n3, c3, rfl, hn3, by simpa using ho3, Kp.trans (h1.trans h2) h3 (fun _ _ h => h) (fun i hi hb => by omega)⟩
end Go.Proofs.Ytlcnjadfkpkgjaa.G
