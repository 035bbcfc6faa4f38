/- The laws CellPuts, CellGets, CellBack, CellOrder: each returns true. Conditions: lengths below 2^47, numbers of their kinds. -/
import Derived.Test.YtlcnjadfkpkgjaaCellB
namespace Go.Proofs.Ytlcnjadfkpkgjaa.G
open Go.Dec Go.RowKit
set_option linter.unusedVariables false
set_option linter.unusedSimpArgs false

theorem awake_spec (w : World) : stopcocklaw04_awake.C w (Ret fun v w' => v = .bool true ∧ Ex w w') := by
  apply stopcocklaw04_awake.ok
  unfold stopcocklaw04_awake.main
  refine callP.use (Put_spec none 0 0 [] 3 258 w rfl rfl (by omega)) ?_
  rintro _ w1 ⟨p1, n1, c1, rfl, hn1, ho, h1⟩
  have e1 : putE 3 258 = 0 := by decide
  have e2 : putB [] 3 258 = [0, 1, 2] := by decide
  rw [e1]
  rw [e2] at ho
  try dsimp only [dI_i64, dI_u8, dI_u16, dI_u32, dB_bool, dS_slice, dP_ptr, dT_tup, dA_agg, dStr_str, dF_f, dC_c, dM_m, optP_some, ga0, ga1, ga2, ga3, ga4, cond_true, cond_false, chk_true, Bool.not_true, Bool.not_false, Option.isNone_none, Option.isNone_some]
  have hl : 3 = n1 * 1 := ho.1
  obtain rfl : n1 = 3 := by omega
  refine callP.use (Get_spec p1 3 c1 [0, 1, 2] 1 2 w1 ho.cells rfl ho.2.1 (by omega) (by decide) (by omega) (by omega)) ?_
  rintro _ w2 ⟨rfl, h2⟩
  have e3 : getN [0, 1, 2] 1 2 = 258 := by decide
  have e4 : getE 3 1 2 = 0 := by decide
  rw [e3, e4]
  try dsimp only [dI_i64, dI_u8, dI_u16, dI_u32, dB_bool, dS_slice, dP_ptr, dT_tup, dA_agg, dStr_str, dF_f, dC_c, dM_m, optP_some, ga0, ga1, ga2, ga3, ga4, cond_true, cond_false, chk_true, Bool.not_true, Bool.not_false, Option.isNone_none, Option.isNone_some]
  rw [cond_pos (by decide), cond_pos (by decide)]
  refine ⟨[0, 1, 2], rfl, ho.cells.ex h2, ?_⟩
  have e5 : strOf [0, 1, 2] = (⟨#[0, 1, 2]⟩ : ByteArray) := rfl
  rw [e5, cond_pos (by simp)]
  exact Ret.mk ⟨rfl, h1.trans h2⟩

theorem CellPuts_walk (p : Option Addr) (n c : Nat) (xs : List Int) (s x : Int) (w : World) (hc : CellsO w p (v8 xs)) (hn : xs.length = n) (hl : n ≤ 140737488351232) (hx : x ≤ 9223372036854775807) :
    stopcocklaw04_CellPuts.C p n c s x w (Ret fun v w' => v = .bool true ∧ Ex w w') := by
  apply stopcocklaw04_CellPuts.ok
  unfold stopcocklaw04_CellPuts.main
  refine callP.use (Put_spec p n c xs s x w hc hn hl) ?_
  rintro _ w1 ⟨p1, n1, c1, rfl, hn1, ho1, h1⟩
  try dsimp only [dI_i64, dI_u8, dI_u16, dI_u32, dB_bool, dS_slice, dP_ptr, dT_tup, dA_agg, dStr_str, dF_f, dC_c, dM_m, optP_some, ga0, ga1, ga2, ga3, ga4, cond_true, cond_false, chk_true, Bool.not_true, Bool.not_false, Option.isNone_none, Option.isNone_some]
  refine callP.use (refPut_spec p n c xs s x w1 (hc.ex h1) hn hl hx) ?_
  rintro _ w2 ⟨p2, n2, c2, rfl, hn2, ho2, h2⟩
  try dsimp only [dI_i64, dI_u8, dI_u16, dI_u32, dB_bool, dS_slice, dP_ptr, dT_tup, dA_agg, dStr_str, dF_f, dC_c, dM_m, optP_some, ga0, ga1, ga2, ga3, ga4, cond_true, cond_false, chk_true, Bool.not_true, Bool.not_false, Option.isNone_none, Option.isNone_some]
  refine callP.use (awake_spec w2) ?_
  rintro _ w3 ⟨rfl, h3⟩
  try dsimp only [dI_i64, dI_u8, dI_u16, dI_u32, dB_bool, dS_slice, dP_ptr, dT_tup, dA_agg, dStr_str, dF_f, dC_c, dM_m, optP_some, ga0, ga1, ga2, ga3, ga4, cond_true, cond_false, chk_true, Bool.not_true, Bool.not_false, Option.isNone_none, Option.isNone_some]
  rw [cond_pos (by simp)]
  have e1 : (putB xs s x).length = n1 := by have := ho1.1; simpa using this
  have e2 : (putB xs s x).length = n2 := by have := ho2.1; simpa using this
  refine ⟨putB xs s x, e1, (ho1.cells.ex h2).ex h3, putB xs s x, e2, ho2.cells.ex h3, Ret.mk ⟨by simp, (h1.trans h2).trans h3⟩⟩

theorem CellGets_walk (p : Option Addr) (n c : Nat) (xs : List Int) (at_ s : Int) (w : World) (hc : CellsO w p (v8 xs)) (hn : xs.length = n) (hcap : n ≤ c) (hl : n ≤ 140737488351232) (hb : ∀ x ∈ xs, 0 ≤ x ∧ x < 256)
    (ha0 : -9223372036854775808 ≤ at_) (ha : at_ ≤ 9223372036854775807) :
    stopcocklaw04_CellGets.C p n c at_ s w (Ret fun v w' => v = .bool true ∧ Ex w w') := by
  apply stopcocklaw04_CellGets.ok
  unfold stopcocklaw04_CellGets.main
  refine callP.use (Get_spec p n c xs at_ s w hc hn hcap hl hb ha0 ha) ?_
  rintro _ w1 ⟨rfl, h1⟩
  try dsimp only [dI_i64, dI_u8, dI_u16, dI_u32, dB_bool, dS_slice, dP_ptr, dT_tup, dA_agg, dStr_str, dF_f, dC_c, dM_m, optP_some, ga0, ga1, ga2, ga3, ga4, cond_true, cond_false, chk_true, Bool.not_true, Bool.not_false, Option.isNone_none, Option.isNone_some]
  refine callP.use (refGet_spec p n c xs at_ s w1 (hc.ex h1) hn hl hb ha0 ha) ?_
  rintro _ w2 ⟨rfl, h2⟩
  try dsimp only [dI_i64, dI_u8, dI_u16, dI_u32, dB_bool, dS_slice, dP_ptr, dT_tup, dA_agg, dStr_str, dF_f, dC_c, dM_m, optP_some, ga0, ga1, ga2, ga3, ga4, cond_true, cond_false, chk_true, Bool.not_true, Bool.not_false, Option.isNone_none, Option.isNone_some]
  refine callP.use (awake_spec w2) ?_
  rintro _ w3 ⟨rfl, h3⟩
  try dsimp only [dI_i64, dI_u8, dI_u16, dI_u32, dB_bool, dS_slice, dP_ptr, dT_tup, dA_agg, dStr_str, dF_f, dC_c, dM_m, optP_some, ga0, ga1, ga2, ga3, ga4, cond_true, cond_false, chk_true, Bool.not_true, Bool.not_false, Option.isNone_none, Option.isNone_some]
  rw [cond_pos (by simp)]
  exact Ret.mk ⟨by simp, (h1.trans h2).trans h3⟩

/-! ### What was put is got -/
theorem num_append (a b : List Int) : num (a ++ b) = num a * 256 ^ b.length + num b := by
  revert a
  refine snoc_ind (p := fun b => ∀ a, num (a ++ b) = num a * 256 ^ b.length + num b) (fun a => by simp [num]) (fun l x ih a => ?_) b
  rw [← List.append_assoc, num_snoc, num_snoc, ih a, List.length_append, List.length_singleton, Int.pow_succ, Int.add_mul, Int.mul_assoc, Int.add_assoc]
theorem mod_mod (x : Int) {m : Int} (hm : 0 < m) : x / m % 256 * m + x % m = x % (m * 256) := by
  have h1 : x / m / 256 = x / (m * 256) := by
    rw [Int.ediv_ediv, if_neg (by omega), Int.sub_zero]
  rw [Int.emod_def x (m * 256), Int.emod_def x m, Int.emod_def (x / m) 256, ← h1]
  generalize x / m = q
  generalize q / 256 = a
  grind
theorem num_be : ∀ (k : Nat) (x : Int), 0 ≤ x → num (be k x) = x % 256 ^ k
  | 0, x, h => by simp [be, num, Int.emod_one]
  | k + 1, x, h => by
    have e : be (k + 1) x = [x / 256 ^ k % 256] ++ be k x := rfl
    rw [e, num_append, be_length, num_be k x h]
    have e1 : num [x / 256 ^ k % 256] = x / 256 ^ k % 256 := by simp [num]
    rw [e1, Int.pow_succ]
    exact mod_mod x (Int.pow_pos (by omega))
theorem num_be_ok {k : Nat} {x : Int} (h : okNum k x = true) : num (be k x) = x := by
  simp only [okNum, Bool.and_eq_true, decide_eq_true_eq] at h
  rw [num_be k x h.1, Int.emod_eq_of_lt h.1 h.2]
theorem wrapK {a : Int} (h0 : 0 ≤ a) (h1 : a < 256) : ∃ k : Nat, IntKind.i64.wrap (1 + IntKind.i64.wrap (Int.tmod a 4)) = k ∧ 1 ≤ k ∧ k ≤ 4 ∧ (k : Int) = 1 + a % 4 := by
  rw [Int.tmod_eq_emod_of_nonneg h0]
  have := Int.emod_nonneg a (b := 4) (by omega)
  have := Int.emod_lt_of_pos a (b := 4) (by omega)
  rw [w64 (x := a % 4) (by omega) (by omega), w64 (by omega) (by omega)]
  exact ⟨(1 + a % 4).toNat, by omega, by omega, by omega, by omega⟩

theorem CellBack_walk (p : Option Addr) (n c : Nat) (xs : List Int) (p' : Option Addr) (n' c' : Nat) (ys : List Int) (s x : Int) (w : World) (hc : CellsO w p (v8 xs)) (hn : xs.length = n) (hl : n ≤ 140737488351232) (hb : ∀ x ∈ xs, 0 ≤ x ∧ x < 256)
    (hc' : CellsO w p' (v8 ys)) (hn' : ys.length = n') (hl' : n' ≤ 140737488351232) (hb' : ∀ x ∈ ys, 0 ≤ x ∧ x < 256) (hs0 : 0 ≤ s) (hs1 : s < 256) (hsum : n + 4 + n' ≤ 140737488351232) :
    stopcocklaw04_CellBack.C p n c p' n' c' s x w (Ret fun v w' => v = .bool true ∧ Ex w w') := by
  apply stopcocklaw04_CellBack.ok
  unfold stopcocklaw04_CellBack.main
  obtain ⟨k, hk, hk1, hk4, -⟩ := wrapK hs0 hs1
  rw [hk]
  refine callP.use (Put_spec p n c xs k x w hc hn hl) ?_
  rintro _ w1 ⟨p1, n1, c1, rfl, hn1, ho1, h1⟩
  rw [putE_nat hk1 hk4]
  rw [putB_nat hk1 hk4] at ho1
  try dsimp only [dI_i64, dI_u8, dI_u16, dI_u32, dB_bool, dS_slice, dP_ptr, dT_tup, dA_agg, dStr_str, dF_f, dC_c, dM_m, optP_some, ga0, ga1, ga2, ga3, ga4, cond_true, cond_false, chk_true, Bool.not_true, Bool.not_false, Option.isNone_none, Option.isNone_some]
  refine callP.use (awake_spec w1) ?_
  rintro _ w2 ⟨rfl, h2⟩
  try dsimp only [dI_i64, dI_u8, dI_u16, dI_u32, dB_bool, dS_slice, dP_ptr, dT_tup, dA_agg, dStr_str, dF_f, dC_c, dM_m, optP_some, ga0, ga1, ga2, ga3, ga4, cond_true, cond_false, chk_true, Bool.not_true, Bool.not_false, Option.isNone_none, Option.isNone_some]
  simp only [Bool.not_true, Bool.not_false, cond_true, cond_false]
  unfold stopcocklaw04_CellBack.k1
  cases hok : okNum k x with
  | false =>
    simp only [Bool.false_eq_true, if_false]
    rw [cond_pos (by decide)]
    refine callP.use (awake_spec w2) ?_
    rintro _ w3 ⟨rfl, h3⟩
    try dsimp only [dI_i64, dI_u8, dI_u16, dI_u32, dB_bool, dS_slice, dP_ptr, dT_tup, dA_agg, dStr_str, dF_f, dC_c, dM_m, optP_some, ga0, ga1, ga2, ga3, ga4, cond_true, cond_false, chk_true, Bool.not_true, Bool.not_false, Option.isNone_none, Option.isNone_some]
    exact Ret.mk ⟨by simp, (h1.trans h2).trans h3⟩
  | true =>
    rw [hok] at ho1
    simp only [if_true] at ho1 ⊢
    rw [cond_neg (by decide)]
    have hlen : xs.length + k = n1 := by have := ho1.1; simpa [be_length] using this
    intro b3 w7 hb3 hw7
    subst hb3 hw7
    have h7 : Ex w (w2.alloc (.cells #[] 5)) := (h1.trans h2).trans (Ex.alloc _ _)
    refine appP_own (B := w2.heap.size) (Own.alloc (w := w2) [] 5 1 0 rfl) (Ex.alloc w2 _).size (v8 (xs ++ be k x)) ((ho1.cells.ex h2).ex (Ex.alloc _ _)) (by simp [be_length]; omega) (vals_one _ _) rfl (by omega) (by omega) ?_
    intro p2 c2 w8 ho8 hk8
    have h8 : Ex w w8 := Kp.trans h7 hk8 (fun _ _ h => h) (fun i hi ⟨a, ha, hai⟩ => by cases ha; have := (h1.trans h2).size; dsimp only at hai; omega)
    refine appP_own (B := w2.heap.size) ho8 (Nat.le_trans (Ex.alloc w2 _).size hk8.size) (v8 ys) (hc'.ex h8) (by simp; omega) (vals_one _ _) rfl (by omega) (by omega) ?_
    intro p3 c3 w9 ho9 hk9
    have h9 : Ex w w9 := Kp.trans h8 hk9 (fun _ _ h => h) (fun i hi ⟨a, ha, hai⟩ => by have := (ho8.ge ha).1; have := (h1.trans h2).size; omega)
    have hcs9 : CellsO w9 p3 (v8 (xs ++ be k x ++ ys)) := by simpa [v8] using ho9.cells
    refine callP.use (Get_spec p3 _ c3 (xs ++ be k x ++ ys) n k w9 hcs9 (by simp [be_length]; omega) ho9.2.1 (by omega) ?_ (by omega) (by omega)) ?_
    · intro y hy
      simp only [List.mem_append] at hy
      rcases hy with (hy | hy) | hy
      · exact hb y hy
      · exact be_byte k x y hy
      · exact hb' y hy
    rintro _ w10 ⟨rfl, h10⟩
    obtain ⟨e1, e2⟩ := get_in (s := k) (at_ := n) (xs := xs ++ be k x ++ ys) (n := 0 + n1 + n') (by omega) (by omega) (by simp [be_length]; omega) (by omega) (by omega)
    rw [e1, e2]
    try dsimp only [dI_i64, dI_u8, dI_u16, dI_u32, dB_bool, dS_slice, dP_ptr, dT_tup, dA_agg, dStr_str, dF_f, dC_c, dM_m, optP_some, ga0, ga1, ga2, ga3, ga4, cond_true, cond_false, chk_true, Bool.not_true, Bool.not_false, Option.isNone_none, Option.isNone_some]
    have e3 : ((xs ++ be k x ++ ys).drop (n : Int).toNat).take (k : Int).toNat = be k x := by
      rw [Int.toNat_natCast, Int.toNat_natCast, List.append_assoc, List.drop_left' hn, List.take_left' (be_length k x)]
    rw [e3, num_be_ok hok]
    rw [cond_pos (by decide), cond_pos (by simp), w64 (by omega) (by omega), cond_pos (by simp; omega)]
    refine chkd_of (by omega) (chkd_of (by have := ho1.2.1; omega) ?_)
    have hcs : CellsO w10 (slA p1 c1 0 1) (v8 xs) := by
      have h0 := (((ho1.cells.ex h2).ex (Ex.alloc w2 (.cells #[] 5))).kp hk8 ?_)
      · have h0' := (h0.kp hk9 ?_).ex h10
        · have := CellsO.slice h0' c1 0 n (by have := ho1.2.1; simp [be_length]; omega)
          rw [List.drop_zero] at this
          have e4 : (v8 (xs ++ be k x)).take n = v8 xs := by rw [v8, List.map_append, ← hn, List.take_left' (by simp)]
          rw [e4] at this
          exact this
        · rintro a ha ⟨b, hb, hab⟩
          have g1 := (ho8.ge hb).1
          have g2 := ((ho1.ex h2).ge ha).2
          omega
      · rintro a ha ⟨b, hb, hab⟩
        cases hb
        have := (ho1.ex h2).ge ha
        dsimp only at hab
        omega
    refine ⟨xs, hn, hcs, xs, hn, hc.ex (h9.trans h10), fun k1 => Ret.mk ⟨by simp, (h9.trans h10).trans (Ex.drewN _ _)⟩⟩
end Go.Proofs.Ytlcnjadfkpkgjaa.G
