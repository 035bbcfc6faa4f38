/-
  What bytes say of a state: as leaf reads them, and as the document does; what a state was laid as is read as it.
-/
import Derived.Test.YthgmebhkbbehmaaLeafS
namespace Go.Proofs.Ythgmebhkbbehmaa.G.En
open Go.Dec Go.RowKit
set_option linter.unusedVariables false
set_option linter.unusedSimpArgs false

/-! ### Places -/
def plOk (k n : Int) : Bool := decide (n = 0) || (decide (1 ≤ k) && decide (k ≤ 16) && decide (n - 1 < 24 * k))
def pl2 (k n : Int) : Pl := if n = 0 then none else if 1 ≤ k ∧ k ≤ 16 ∧ n - 1 < 24 * k then some (((n - 1) / k).toNat, ((n - 1) % k).toNat) else some (0, 0)
theorem pl2_ok {k n : Int} (hn : 0 ≤ n) : okPl (pl2 k n) := by
  unfold pl2
  split
  · exact trivial
  · split
    · rename_i h0 h
      have hk := h.1
      have h1 := Int.emod_nonneg (n - 1) (show k ≠ 0 by omega)
      have h2 := Int.emod_lt_of_pos (n - 1) (show 0 < k by omega)
      have h3 : 0 ≤ (n - 1) / k := Int.ediv_nonneg (by omega) (by omega)
      have h4 : (n - 1) / k < 24 := Int.ediv_lt_of_lt_mul (by omega) h.2.2
      exact ⟨by show ((n - 1) / k).toNat < 24; omega, by show ((n - 1) % k).toNat < 16; omega⟩
    · exact ⟨by decide, by decide⟩
theorem pl_back {k : Int} (hk : 2 ≤ k ∧ k ≤ 16) {q : Pl} (hq : okPl q) (hx : ∀ x, q = some x → (x.2 : Int) < k) : plOk k (numP k q) = true ∧ pl2 k (numP k q) = q ∧ 0 ≤ numP k q ∧ numP k q < 65536 := by
  cases q with
  | none => exact ⟨rfl, rfl, Int.le_refl 0, (by decide : (0 : Int) < 65536)⟩
  | some x =>
    have h1 := hx x rfl
    have h2 := hq.1
    have hf := flat_le (k := k) h2 (by omega)
    have e : numP k (some x) = (x.1 : Int) * k + x.2 + 1 := rfl
    have e1 : (x.1 : Int) * k + x.2 + 1 - 1 = x.2 + k * x.1 := by rw [Int.mul_comm]; omega
    have hd : ((x.2 : Int) + k * x.1) / k = x.1 := by
      rw [Int.add_mul_ediv_left _ _ (by omega), Int.ediv_eq_zero_of_lt (by omega) h1]
      omega
    have hm : ((x.2 : Int) + k * x.1) % k = x.2 := by
      rw [Int.add_mul_emod_self_left]
      exact Int.emod_eq_of_lt (by omega) h1
    have hlt : (x.2 : Int) + k * x.1 < 24 * k := by
      have h3 : k * (x.1 : Int) ≤ k * 23 := Int.mul_le_mul_of_nonneg_left (by omega) (by omega)
      omega
    rw [e]
    refine ⟨?_, ?_, by omega, by omega⟩
    · unfold plOk
      rw [e1, decide_eq_true (show 1 ≤ k by omega), decide_eq_true hk.2, decide_eq_true hlt]
      simp
    · unfold pl2
      rw [if_neg (by omega), e1, if_pos ⟨by omega, hk.2, hlt⟩, hd, hm]
      simp
theorem num_be2 {n : Int} (h : 0 ≤ n ∧ n < 65536) : Cel.num (Cel.be 2 n) = n := by
  simp [Cel.be, Cel.num]
  omega

/-! ### Entries -/
def rdE (k : Int) : List Int → Ent × List Int
  | a :: b :: r => ((a, b, (Cel.unL 2 (min b.toNat (r.length / 2)) r).map (pl2 k)), r.drop (2 * min b.toNat (r.length / 2)))
  | t => ((0, 0, []), t)
def okE (k : Int) : List Int → Bool
  | _ :: b :: r => decide (2 * b ≤ (r.length : Int)) && (Cel.unL 2 b.toNat r).all (plOk k)
  | _ => false
def rdR (k : Int) (t : List Int) : Nat → Sta × List Int
  | 0 => ([], t)
  | n + 1 => ((rdR k t n).1 ++ [(rdE k (rdR k t n).2).1], (rdE k (rdR k t n).2).2)
/-- the first so many entries may be read -/
def okR (k : Int) (t : List Int) : Nat → Bool
  | 0 => true
  | n + 1 => okR k t n && okE k (rdR k t n).2
def okAll (k : Int) (t : List Int) : Bool := okR k t 8 && decide ((rdR k t 8).2.length = 0)
theorem rdR_len (k : Int) (t : List Int) : ∀ n, (rdR k t n).1.length = n
  | 0 => rfl
  | n + 1 => by
    show ((rdR k t n).1 ++ [_]).length = n + 1
    rw [List.length_append, rdR_len k t n]
    rfl
theorem num_nonneg {xs : List Int} (hb : Bytes xs) : 0 ≤ Cel.num xs := (Cel.num_bound xs hb).1
theorem unL_nonneg {m : Nat} {r : List Int} (hb : Bytes r) : ∀ n ∈ Cel.unL 2 m r, 0 ≤ n := fun n hn => by
  obtain ⟨i, _, rfl⟩ := List.mem_map.1 hn
  exact num_nonneg ((hb.drop _).take _)
theorem rdE_bytes {k : Int} {t : List Int} (hb : Bytes t) : Bytes (rdE k t).2 := by
  match t, hb with
  | [], hb => exact hb
  | [a], hb => exact hb
  | a :: b :: r, hb => exact Bytes.drop (fun x hx => hb x (List.mem_cons_of_mem _ (List.mem_cons_of_mem _ hx))) _
theorem rdR_bytes {k : Int} {t : List Int} (hb : Bytes t) : ∀ n, Bytes (rdR k t n).2
  | 0 => hb
  | n + 1 => rdE_bytes (rdR_bytes hb n)
theorem pls_ok {k : Int} {m : Nat} {r : List Int} (hb : Bytes r) : ∀ q ∈ (Cel.unL 2 m r).map (pl2 k), okPl q := fun q hq => by
  obtain ⟨n, hn, rfl⟩ := List.mem_map.1 hq
  exact pl2_ok (unL_nonneg hb n hn)
theorem rdE_ok {k : Int} {t : List Int} (hb : Bytes t) : okEnt (rdE k t).1 := by
  have z : okEnt (0, 0, []) := ⟨fun q hq => (by cases hq), (by decide), ⟨by decide, by decide⟩, ⟨by decide, by decide⟩⟩
  match t, hb with
  | [], hb => exact z
  | [a], hb => exact z
  | a :: b :: r, hb =>
    have ha := hb a (by simp)
    have hb' := hb b (by simp)
    have hr : Bytes r := fun x hx => hb x (List.mem_cons_of_mem _ (List.mem_cons_of_mem _ hx))
    refine ⟨pls_ok hr, ?_, ha, hb'⟩
    show ((Cel.unL 2 _ r).map (pl2 k)).length ≤ 1000
    rw [List.length_map, Cel.unL_length]
    omega
theorem rdR_ok {k : Int} {t : List Int} (hb : Bytes t) : ∀ n, ∀ e ∈ (rdR k t n).1, okEnt e
  | 0 => fun e he => by cases he
  | n + 1 => fun e he => by
    rcases List.mem_append.1 he with he | he
    · exact rdR_ok hb n e he
    · rw [List.mem_singleton] at he
      subst he
      exact rdE_ok (rdR_bytes hb n)
theorem rdE_len (k : Int) (t : List Int) : (rdE k t).2.length ≤ t.length := by
  match t with
  | [] => exact Nat.le_refl _
  | [a] => exact Nat.le_refl _
  | a :: b :: r => show (r.drop _).length ≤ _; rw [List.length_drop]; simp; omega

/-! ### There and back -/
theorem unL_pls {k : Int} (hk : 2 ≤ k ∧ k ≤ 16) (r : List Int) : ∀ l : List Pl, (∀ q ∈ l, okPl q) → (∀ x, some x ∈ l → (x.2 : Int) < k) → Cel.unL 2 l.length (plsB k l ++ r) = l.map (numP k) := by
  intro l hq hx
  apply List.ext_getElem?
  intro i
  unfold Cel.unL
  rw [List.getElem?_map, List.getElem?_map]
  by_cases hi : i < l.length
  · rw [List.getElem?_range hi, List.getElem?_eq_getElem hi]
    simp only [Option.map_some]
    congr 1
    unfold Cel.cut1
    have hsplit : plsB k l ++ r = plsB k (l.take i) ++ (numB k l[i] ++ (plsB k (l.drop (i + 1)) ++ r)) := by
      conv => lhs; rw [← List.take_append_drop i l, List.drop_eq_getElem_cons hi]
      unfold plsB
      rw [List.flatMap_append, List.flatMap_cons]
      simp only [List.append_assoc]
    have h1 : (plsB k (l.take i)).length = i * 2 := by rw [plsB_len, List.length_take]; omega
    rw [hsplit, ← h1, List.drop_left]
    have h2 : (numB k l[i]).length = 2 := by unfold numB; rw [Cel.be_length]
    rw [← h2, List.take_left]
    have hb := pl_back hk (hq _ (List.getElem_mem hi)) (fun x e => hx x (e ▸ List.getElem_mem hi))
    exact num_be2 ⟨hb.2.2.1, hb.2.2.2⟩
  · rw [List.getElem?_eq_none (by rw [List.length_range]; omega), List.getElem?_eq_none (by omega)]
    rfl
theorem rd_payE {s k : Int} {R : Sta} (hF : FitR s k R) (ho : ∀ e ∈ R, okEnt e) {e : Ent} (he : e ∈ R) (r : List Int) : okE k (payE k e ++ r) = true ∧ rdE k (payE k e ++ r) = (e, r) := by
  have hh := may_iff.1 hF.1.1
  have hS := hF.1.2.1 e he
  obtain ⟨a, b, l⟩ := e
  have hl : (l.length : Int) = b := hS.1
  have hq := (ho _ he).1
  have hx : ∀ x, some x ∈ l → (x.2 : Int) < k := fun x hx => (in_fits hF he hx).1
  have hu := unL_pls (k := k) (by omega) r l hq hx
  have ht : b.toNat = l.length := by omega
  have hlen : (plsB k l ++ r).length = 2 * l.length + r.length := by rw [List.length_append, plsB_len]
  have e1 : payE k (a, b, l) ++ r = a :: b :: (plsB k l ++ r) := rfl
  rw [e1]
  constructor
  · show (decide (2 * b ≤ ((plsB k l ++ r).length : Int)) && (Cel.unL 2 b.toNat (plsB k l ++ r)).all (plOk k)) = true
    rw [ht, hu, hlen, decide_eq_true (by omega), Bool.true_and, List.all_eq_true]
    intro n hn
    obtain ⟨q, hql, rfl⟩ := List.mem_map.1 hn
    exact (pl_back (by omega) (hq q hql) (fun x e => hx x (e ▸ hql))).1
  · have hmin : min b.toNat ((plsB k l ++ r).length / 2) = l.length := by rw [hlen]; omega
    show ((a, b, (Cel.unL 2 (min b.toNat ((plsB k l ++ r).length / 2)) (plsB k l ++ r)).map (pl2 k)), (plsB k l ++ r).drop (2 * min b.toNat ((plsB k l ++ r).length / 2))) = ((a, b, l), r)
    rw [hmin, hu, ← plsB_len k l, List.drop_left, List.map_map]
    have : l.map (pl2 k ∘ numP k) = l := by
      conv => rhs; rw [← List.map_id l]
      refine List.map_congr_left fun q hql => ?_
      exact (pl_back (by omega) (hq q hql) (fun x e => hx x (e ▸ hql))).2.1
    rw [this]
theorem rd_pay {s k : Int} {R : Sta} (hF : FitR s k R) (ho : ∀ e ∈ R, okEnt e) : ∀ n, n ≤ R.length → okR k (pay k R) n = true ∧ rdR k (pay k R) n = (R.take n, pay k (R.drop n))
  | 0, _ => ⟨rfl, rfl⟩
  | n + 1, h => by
    obtain ⟨h1, h2⟩ := rd_pay hF ho n (by omega)
    have hn : n < R.length := by omega
    have e1 : pay k (R.drop n) = payE k R[n] ++ pay k (R.drop (n + 1)) := by
      rw [List.drop_eq_getElem_cons hn]
      rfl
    obtain ⟨g1, g2⟩ := rd_payE hF ho (List.getElem_mem hn) (pay k (R.drop (n + 1)))
    constructor
    · show (okR k (pay k R) n && okE k (rdR k (pay k R) n).2) = true
      rw [h1, h2]
      show (true && okE k (pay k (R.drop n))) = true
      rw [e1, g1]
      rfl
    · show ((rdR k (pay k R) n).1 ++ [(rdE k (rdR k (pay k R) n).2).1], (rdE k (rdR k (pay k R) n).2).2) = _
      rw [h2]
      show (R.take n ++ [(rdE k (pay k (R.drop n))).1], (rdE k (pay k (R.drop n))).2) = _
      rw [e1, g2, List.take_succ_eq_append_getElem hn]
theorem rd_back {s k : Int} {R : Sta} (hF : FitR s k R) (ho : ∀ e ∈ R, okEnt e) (h8 : R.length = 8) : okAll k (pay k R) = true ∧ (rdR k (pay k R) 8).1 = R := by
  obtain ⟨h1, h2⟩ := rd_pay hF ho 8 (by omega)
  rw [List.take_of_length_le (by omega), List.drop_of_length_le (by omega)] at h2
  unfold okAll
  rw [h1, h2]
  exact ⟨rfl, rfl⟩
end Go.Proofs.Ythgmebhkbbehmaa.G.En
namespace Go.Proofs.Ythgmebhkbbehmaa.G.En
open Go.Dec Go.RowKit
set_option linter.unusedVariables false
set_option linter.unusedSimpArgs false

theorem okR_mono {k : Int} {t : List Int} : ∀ {n m : Nat}, n ≤ m → okR k t m = true → okR k t n = true := by
  intro n m h
  induction m with
  | zero =>
    intro h1
    have h0 : n = 0 := by omega
    rw [h0]
    rfl
  | succ m ih =>
    intro h1
    by_cases hn : n = m + 1
    · subst hn; exact h1
    · have h1 : (okR k t m && okE k (rdR k t m).2) = true := h1
      rw [Bool.and_eq_true] at h1
      exact ih (by omega) h1.1
theorem okAll_false {k : Int} {t : List Int} {i : Nat} (hi : i < 8) (hf : okE k (rdR k t i).2 = false) : okAll k t = false := by
  cases h : okAll k t with
  | false => rfl
  | true =>
    unfold okAll at h
    rw [Bool.and_eq_true] at h
    have h1 := okR_mono (show i + 1 ≤ 8 by omega) h.1
    have h1 : (okR k t i && okE k (rdR k t i).2) = true := h1
    rw [hf, Bool.and_false] at h1
    cases h1
theorem cpx_same {r m r' m' : Nat} (h1 : r = r') (h2 : m = m') : Value.complex .f64 r m = .complex .f64 r' m' := by rw [h1, h2]
theorem Place_spec {n k : Int} (hn : 1 ≤ n ∧ n < 65536) (hk : 0 ≤ k ∧ k < 256) (w : World) : axis_Place.C (n - 1) k w (Ret fun v w' => ∃ e, v = .tuple #[.complex .f64 (plR (pl2 k n)) (plM (pl2 k n)), .int .i64 e] ∧ (e = 0 ↔ plOk k n = true) ∧ Ex w w') := by
  apply axis_Place.ok
  unfold axis_Place.main
  refine callP.use (width_spec k w) ?_
  rintro _ w1 ⟨rfl, e1⟩
  obtain rfl := e1.symm
  try dsimp only [dI_i64, dI_u8, dI_u16, dI_u32, dB_bool, dS_slice, dP_ptr, dT_tup, dA_agg, dStr_str, dF_f, dC_c, dM_m, optP_some, ga0, ga1, ga2, ga3, ga4, cond_true, cond_false, chk_true, Bool.not_true, Bool.not_false, Option.isNone_none, Option.isNone_some, List.toList_toArray]
  have hbad : ¬(1 ≤ k ∧ k ≤ 16 ∧ n - 1 < 24 * k) → plR (pl2 k n) = 0 ∧ plM (pl2 k n) = 0 ∧ plOk k n = false := fun h => by
    unfold pl2 plOk
    rw [if_neg (by omega), if_neg h, decide_eq_false (show ¬ n = 0 by omega)]
    refine ⟨nr_zero, nr_zero, ?_⟩
    by_cases h1 : 1 ≤ k
    · by_cases h2 : k ≤ 16
      · rw [decide_eq_false (show ¬ n - 1 < 24 * k from fun h3 => h ⟨h1, h2, h3⟩)]; simp
      · rw [decide_eq_false h2]; simp
    · rw [decide_eq_false h1]; simp
  have fail : ∀ {e : Int} {w' : World}, ¬(1 ≤ k ∧ k ≤ 16 ∧ n - 1 < 24 * k) → e ≠ 0 → Ex w w' → Ret (fun v w' => ∃ e, v = .tuple #[.complex .f64 (plR (pl2 k n)) (plM (pl2 k n)), .int .i64 e] ∧ (e = 0 ↔ plOk k n = true) ∧ Ex w w') (.returned (.tuple #[.complex .f64 0 0, .int .i64 e])) w' := fun h he x => by
    obtain ⟨h1, h2, h3⟩ := hbad h
    refine Ret.mk ⟨_, ?_, ⟨fun h => absurd h he, fun h => ?_⟩, x⟩
    · rw [h1, h2]
    · rw [h3] at h; cases h
  refine cond_of (fun hc => ?_) (fun hc => ?_)
  · exact fail (e := 1) (fun h => by rw [decide_eq_true h.1, decide_eq_true h.2.1] at hc; cases hc) (by decide) (Ex.refl _)
  have hc : 1 ≤ k ∧ k ≤ 16 := by simpa using hc
  rw [condd_neg (by omega), w64 (x := 24 * k) (by omega) (by omega)]
  refine cond_of (fun h2 => ?_) (fun h2 => ?_)
  · have h2 := of_decide_eq_true h2
    exact fail (e := 5) (fun h => by omega) (by decide) (Ex.refl _)
  have h2 := of_decide_eq_false h2
  refine chk_of (decide_eq_true (by omega)) (chk_of (decide_eq_true (by omega)) fun k1 => ?_)
  have hin : 1 ≤ k ∧ k ≤ 16 ∧ n - 1 < 24 * k := ⟨hc.1, hc.2, by omega⟩
  have e1 : Int.tdiv (n - 1) k = (((n - 1) / k).toNat : Int) := by
    rw [Int.tdiv_eq_ediv_of_nonneg (by omega)]
    have := Int.ediv_nonneg (a := n - 1) (b := k) (by omega) (by omega)
    omega
  have e2 : Int.tmod (n - 1) k = (((n - 1) % k).toNat : Int) := by
    rw [Int.tmod_eq_emod_of_nonneg (by omega)]
    have := Int.emod_nonneg (n - 1) (show k ≠ 0 by omega)
    omega
  have hlt : (n - 1) / k < 24 := Int.ediv_lt_of_lt_mul (by omega) hin.2.2
  rw [e1, e2, w64 (by omega) (by omega)]
  have ep : pl2 k n = some (((n - 1) / k).toNat, ((n - 1) % k).toNat) := by
    unfold pl2
    rw [if_neg (by omega), if_pos hin]
  refine Ret.mk ⟨0, ?_, ⟨fun _ => ?_, fun _ => rfl⟩, Ex.drewN _ _⟩
  · rw [ep]
    rfl
  · unfold plOk
    rw [decide_eq_true hin.1, decide_eq_true hin.2.1, decide_eq_true hin.2.2]
    simp

/-! ### States that grow -/
abbrev ze : Ent := (0, 0, [])
def fl (R : Sta) : Sta := R ++ List.replicate (8 - R.length) ze
theorem fl_len {R : Sta} (h : R.length ≤ 8) : (fl R).length = 8 := by unfold fl; rw [List.length_append, List.length_replicate]; omega
theorem fl_full {R : Sta} (h : R.length = 8) : fl R = R := by unfold fl; rw [h]; simp
theorem fl_get {R : Sta} {i : Nat} (h : R.length = i) (hi : i < 8) : (fl R)[i]? = some ze := by
  unfold fl
  rw [List.getElem?_append_right (by omega), List.getElem?_replicate, if_pos (by omega)]
theorem fl_set {R : Sta} {i : Nat} (h : R.length = i) (hi : i < 8) (e : Ent) : (fl R).set i e = fl (R ++ [e]) := by
  unfold fl
  have h1 : 8 - R.length = (8 - (R ++ [e]).length) + 1 := by rw [List.length_append, List.length_singleton]; omega
  rw [h1, List.replicate_succ, List.set_append_right _ _ (by omega), h, Nat.sub_self, List.set_cons_zero, List.append_assoc]
  rfl
theorem kinds_put : ∀ (R : Sta) (k : Nat) (a b : Int) (l : List Pl), k < R.length → (kinds R).take (k * 2) ++ two a b ++ (kinds R).drop (k * 2 + 2) = kinds (R.set k (a, b, l))
  | [], k, a, b, l, h => by simp at h
  | e :: R, 0, a, b, l, h => by simp [kinds, two]
  | e :: R, k + 1, a, b, l, h => by
    have := kinds_put R k a b l (by simpa using h)
    have e1 : kinds (e :: R) = .int .i64 e.1 :: .int .i64 e.2.1 :: kinds R := rfl
    have e2 : (k + 1) * 2 = k * 2 + 2 := by omega
    rw [e1, e2]
    show .int .i64 e.1 :: .int .i64 e.2.1 :: ((kinds R).take (k * 2) ++ two a b ++ (kinds R).drop (k * 2 + 2)) = _
    rw [this]
    rfl
theorem stC_put {R : Sta} {qs : List Value} (h8 : R.length = 8) {i : Nat} (hi : i < 8) (a b : Int) (l : List Pl) : (kinds R ++ qs).take (i * 2) ++ two a b ++ (kinds R ++ qs).drop (i * 2 + (two a b).length) = kinds (R.set i (a, b, l)) ++ qs := by
  have hk : (kinds R).length = 16 := by rw [kinds_len, h8]
  have h2 : (two a b).length = 2 := rfl
  rw [h2, List.take_append_of_le_length (by omega), List.drop_append_of_le_length (by omega), ← kinds_put R i a b l (by omega)]
  simp
structure StO (w : World) (R : Sta) (ps : List Value) : Prop where
  len : R.length = 8
  pls : ps.length = 8
  row : ∀ (k : Nat) (e : Ent), R[k]? = some e → ∃ (p : Option Addr) (c : Nat), ps[k]? = some (Value.slice p e.2.2.length c) ∧ Owns w 0 ty_complex128 1 p e.2.2.length c (e.2.2.map plV)
  ok : ∀ e ∈ R, okEnt e
theorem StO.at {w : World} {R : Sta} {ps : List Value} (h : StO w R ps) : StAt w R ps :=
  ⟨h.len, h.pls, fun k e he => by obtain ⟨p, c, h1, h2⟩ := h.row k e he; exact ⟨p, c, h1, h2.cells⟩, h.ok⟩
theorem StO.kp {w w' : World} {R : Sta} {ps : List Value} (h : StO w R ps) {S : Nat → Prop} (k : Kp w w' S) (hs : ∀ i, Typed w ty_complex128 i → i < w.heap.size → ¬ S i) : StO w' R ps :=
  ⟨h.len, h.pls, fun j e he => by
    obtain ⟨p, c, h1, h2⟩ := h.row j e he
    exact ⟨p, c, h1, h2.kp k fun x hx => hs _ (h2.typed hx).1 (h2.typed hx).2.2⟩, h.ok⟩
theorem StO.ex {w w' : World} {R : Sta} {ps : List Value} (h : StO w R ps) (x : Ex w w') : StO w' R ps := h.kp x fun _ _ _ h => h
theorem StO.away {w w' : World} {R : Sta} {ps : List Value} (h : StO w R ps) {S : Nat → Prop} (k : Kp w w' S) (f : TypeId) (hs : ∀ i, S i → Typed w f i) (hne : ty_complex128 ≠ f) : StO w' R ps :=
  h.kp k fun i ht _ hi => ht.ne (hs i hi) hne rfl
theorem StO.set {w : World} {R : Sta} {ps : List Value} (h : StO w R ps) {i : Nat} (hi : i < 8) {e : Ent} (he : okEnt e) {p : Option Addr} {n c : Nat} (hn : e.2.2.length = n) (o : Owns w 0 ty_complex128 1 p n c (e.2.2.map plV)) : StO w (R.set i e) (ps.set i (.slice p n c)) := by
  subst hn
  refine ⟨by rw [List.length_set]; exact h.len, by rw [List.length_set]; exact h.pls, fun k e' hk => ?_, fun e' he' => ?_⟩
  · rw [List.getElem?_set] at hk ⊢
    by_cases hik : i = k
    · rw [if_pos hik] at hk ⊢
      subst hik
      rw [if_pos (by rw [h.len]; exact hi)] at hk
      rw [if_pos (by rw [h.pls]; exact hi)]
      cases hk
      exact ⟨p, c, rfl, o⟩
    · rw [if_neg hik] at hk ⊢
      exact h.row k e' hk
  · rcases List.mem_or_eq_of_mem_set he' with h1 | h1
    · exact h.ok e' h1
    · rw [h1]; exact he
def AllOne (l : List Value) : Prop := ∀ z ∈ l, z.oneCell' = true
theorem AllOne.set {l : List Value} (h : AllOne l) (i : Nat) {v : Value} (hv : v.oneCell' = true) : AllOne (l.set i v) := fun z hz => by
  rcases List.mem_or_eq_of_mem_set hz with h1 | h1
  · exact h z h1
  · rw [h1]; exact hv
theorem AllOne.app {l m : List Value} (h : AllOne l) (k : AllOne m) : AllOne (l ++ m) := fun z hz => (List.mem_append.1 hz).elim (h z) (k z)
theorem kinds_one (R : Sta) : AllOne (kinds R) := fun z hz => by
  obtain ⟨e, _, he⟩ := List.mem_flatMap.1 hz
  exact two_one' _ _ z he
theorem StO.ones {w : World} {R : Sta} {ps : List Value} (h : StO w R ps) : AllOne ps := fun z hz => h.at.one z (List.mem_append.2 (.inr hz))
theorem zst_fl : zst = stC (fl []) (List.replicate 8 (.slice none 0 0)) := rfl
theorem StO.zero (w : World) : StO w (fl []) (List.replicate 8 (.slice none 0 0)) := by
  refine ⟨rfl, rfl, fun k e he => ?_, fun e he => ?_⟩
  · have hz : e = ze := by
      have := List.mem_of_getElem? he
      exact List.eq_of_mem_replicate (n := 8) this
    subst hz
    refine ⟨none, 0, ?_, Owns.nil _ _ _ _⟩
    have : k < 8 := (List.getElem?_eq_some_iff.1 he).1
    rw [List.getElem?_replicate, if_pos this]
    rfl
  · have hz : e = ze := List.eq_of_mem_replicate (n := 8) he
    subst hz
    exact ⟨fun q hq => (by cases hq), (by decide), ⟨by decide, by decide⟩, ⟨by decide, by decide⟩⟩
/-- a place behind a list of places, in a state's memory -/
theorem push_pl {w : World} {b B i j : Nat} {K qs : List Value} {p : Option Addr} {c : Nat} {l : List Value} {q : Pl} (hi : i < 8) (hK : K.length = 16) (hqs : qs.length = 8) (own : Owns w 0 ty_api_State 24 (some ⟨b, 0, none⟩) 1 1 (K ++ qs)) (hq : qs[i]? = some (.slice p j c)) (row : Owns w B ty_complex128 1 p j c l) (hj : j ≤ 1000) (hB : B ≤ w.heap.size)
    {N : Option Addr → Nat → Nat → World → Prop}
    (KK : ∀ p' c' w14, Kp w w14 (fun x => x = b ∨ B ≤ x) → Owns w14 0 ty_api_State 24 (some ⟨b, 0, none⟩) 1 1 (K ++ qs.set i (.slice p' (j + 1) c')) → Owns w14 B ty_complex128 1 p' (j + 1) c' (l ++ [plV q]) → N p' j c' w14) :
    chk (decide (0 ≤ (i : Int))) (chk (decide ((i : Int) < (8 : Int))) (
      ∃ (p2 : Option Addr) (n2 : Nat) (c2 : Nat), w.cell? ((⟨b, 16, none⟩ : Addr).add ((i : Int).toNat * 1)) = some (Value.slice p2 n2 c2) ∧
      (newP w #[(Value.complex .f64 (plR q) (plM q))] ty_complex128 fun b4 w12 =>
        appP w12 p2 n2 c2 1 (CellsO w12 (some ⟨b4, 0, none⟩)) ty_complex128 1 16 #[(Value.complex .f64 0 0)] fun p3 c3 w13 =>
        chk (decide (0 ≤ (i : Int))) (chk (decide ((i : Int) < (8 : Int))) (
            (w13.cell? ((⟨b, 16, none⟩ : Addr).add ((i : Int).toNat * 1))).isSome = true ∧ w13.frozen? ((⟨b, 16, none⟩ : Addr).add ((i : Int).toNat * 1)) = false ∧ ∀ w14, w14 = w13.setCell ((⟨b, 16, none⟩ : Addr).add ((i : Int).toNat * 1)) (Value.slice p3 (n2 + 1) c3) → N p3 n2 c3 w14))))) := by
  refine chk_of (decide_eq_true (by omega)) (chk_of (decide_eq_true (by omega)) ?_)
  rw [Int.toNat_natCast, addr16]
  have hat : (K ++ qs)[16 + i]? = some (.slice p j c) := by
    rw [List.getElem?_append_right (by omega), hK, Nat.add_sub_cancel_left]
    exact hq
  refine ⟨p, j, c, own.at hat, ?_⟩
  rintro b4 w12 rfl rfl
  have o4 := Owns.new (w := w) [plV q] ty_complex128
  have x4 := Ex.alloc w (.cells [plV q].toArray ty_complex128)
  have e4 : w.alloc (.cells #[.complex .f64 (plR q) (plM q)] ty_complex128) = w.alloc (.cells [plV q].toArray ty_complex128) := rfl
  rw [e4]
  generalize w.alloc (.cells [plV q].toArray ty_complex128) = w12 at o4 x4 ⊢
  have row1 := row.ex x4
  refine appP_own (B := B) row1 (Nat.le_trans hB x4.size) [plV q] o4.cells rfl (by intro z hz; rw [List.mem_singleton] at hz; subst hz; rfl) rfl (by omega) (by omega) ?_
  intro p3 c3 w13 o13 k13
  refine chk_of (decide_eq_true (by omega)) (chk_of (decide_eq_true (by omega)) ?_)
  have tl : ∀ i, (∃ y, p = some y ∧ y.block = i) → Typed w12 ty_complex128 i := fun i ⟨y, e, hi⟩ => hi ▸ (row1.typed e).1
  have own13 := (own.ex x4).away k13 ty_complex128 tl (by decide)
  refine own13.put1 (j := 16 + i) (by omega) (by rfl) fun w14 k14 o14 => ?_
  have hset : (K ++ qs).set (16 + i) (.slice p3 (j + 1) c3) = K ++ qs.set i (.slice p3 (j + 1) c3) := by
    rw [List.set_append_right _ _ (by omega), hK, Nat.add_sub_cancel_left]
  rw [hset] at o14
  have tb : ∀ i, i = b → Typed w13 ty_api_State i := fun i hi => by rw [hi]; exact (own13.typed rfl).1
  refine KK p3 c3 w14 ?_ o14 (o13.away k14 ty_api_State tb (by decide))
  refine Kp.trans (x4.kp fun x => x = b ∨ B ≤ x) (Kp.trans k13 k14 (U := fun x => x = b ∨ B ≤ x) (fun i _ ⟨y, e, hi⟩ => ?_) (fun i _ hi => .inl hi)) (fun _ _ h => h) (fun _ _ h => h)
  have := (row1.ge e).1
  exact .inr (by omega)
end Go.Proofs.Ythgmebhkbbehmaa.G.En
namespace Go.Proofs.Ythgmebhkbbehmaa.G.En
open Go.Dec Go.RowKit
set_option linter.unusedVariables false
set_option linter.unusedSimpArgs false

theorem unL_take (m : Nat) (r : List Int) : Cel.unL 2 m (r.take (2 * m)) = Cel.unL 2 m r := by
  unfold Cel.unL
  refine List.map_congr_left fun i hi => ?_
  have hi := List.mem_range.1 hi
  unfold Cel.cut1
  rw [List.drop_take, List.take_take]
  congr 2
  omega
theorem unL_get {m j : Nat} {r : List Int} (hj : j < m) : (Cel.unL 2 m r)[j]? = some (Cel.cut1 2 r j) := by
  unfold Cel.unL
  rw [List.getElem?_map, List.getElem?_range hj]
  rfl
theorem cut_range {r : List Int} (hb : Bytes r) (j : Nat) : 0 ≤ Cel.cut1 2 r j ∧ Cel.cut1 2 r j < 65536 := by
  unfold Cel.cut1
  have h := Cel.num_bound ((r.drop (j * 2)).take 2) ((hb.drop _).take _)
  have hl : ((r.drop (j * 2)).take 2).length ≤ 2 := List.length_take_le _ _
  have := Cel.pow256_mono hl
  omega
/-- what leaf.state answers -/
def StRes (k : Int) (t : List Int) (w : World) (v : Value) (w' : World) : Prop :=
  Ex w w' ∧ ((okAll k t = true ∧ ∃ ps, v = .tuple #[.agg (stC (rdR k t 8).1 ps).toArray, .bool true] ∧ StO w' (rdR k t 8).1 ps) ∨
    (okAll k t = false ∧ ∃ cs : Array Value, cs.size = 24 ∧ AllOne cs.toList ∧ v = .tuple #[.agg cs, .bool false]))
theorem state_all (p : Option Addr) (n c : Nat) (t : List Int) (s k : Int) (w : World) (hc : CellsO w p (v8 t)) (hn : t.length = n) (hcap : n ≤ c) (hl : n ≤ 100000) (hb : Bytes t) (hk : 0 ≤ k ∧ k < 256) :
    leaf_state.C p n c s k w (Ret (StRes k t w)) := by
  subst hn
  apply leaf_state.ok
  unfold leaf_state.main
  rintro b1 w1 rfl rfl b2 w2 rfl rfl
  have o1 := Owns.new (w := w) (two s k) ty_api_Plat
  have x1 := Ex.alloc w (.cells (two s k).toArray ty_api_Plat)
  have e1 : w.alloc (.cells #[.int .i64 s, .int .i64 k] ty_api_Plat) = w.alloc (.cells (two s k).toArray ty_api_Plat) := rfl
  rw [e1]
  generalize w.heap.size = b1 at o1 ⊢
  generalize w.alloc (.cells (two s k).toArray ty_api_Plat) = w1 at o1 x1 ⊢
  have o2 := (Owns.new (w := w1) zst ty_api_State).lower (Nat.zero_le _)
  have x2 := Ex.alloc w1 (.cells zst.toArray ty_api_State)
  have hb2 : w.heap.size ≤ w1.heap.size := x1.size
  have hb1lt : b1 < w1.heap.size := (o1.ge rfl).2
  generalize w1.heap.size = b2 at o2 hb2 hb1lt ⊢
  have ez : w1.alloc (.cells #[.int .i64 0, .int .i64 0, .int .i64 0, .int .i64 0, .int .i64 0, .int .i64 0, .int .i64 0, .int .i64 0, .int .i64 0, .int .i64 0, .int .i64 0, .int .i64 0, .int .i64 0, .int .i64 0, .int .i64 0, .int .i64 0, .slice none 0 0, .slice none 0 0, .slice none 0 0, .slice none 0 0, .slice none 0 0, .slice none 0 0, .slice none 0 0, .slice none 0 0] ty_api_State) = w1.alloc (.cells zst.toArray ty_api_State) := rfl
  rw [ez]
  have o1 := o1.ex x2
  generalize w1.alloc (.cells zst.toArray ty_api_State) = w2 at o1 o2 x2 ⊢
  have hx2 := x1.trans x2
  rw [zst_fl] at o2
  have bad : ∀ {w' : World} {xs : List Value}, Ex w w' → xs.length = 24 → AllOne xs → Owns w' 0 ty_api_State 24 (some ⟨b2, 0, none⟩) 1 1 xs → okAll k t = false →
      ∃ (cs1 : Array Value), cs1.size = 24 ∧ CellsAt w' (⟨b2, 0, none⟩ : Addr) cs1.toList ∧
      (chk (decide (cs1.size = 24)) (Wr w' (⟨b2, 0, none⟩ : Addr) cs1.toList ∧ ∀ w3, w3 = w'.setCells (⟨b2, 0, none⟩ : Addr).block (⟨b2, 0, none⟩ : Addr).off cs1.toList →
          (∃ (cs2 : Array Value), cs2.size = 24 ∧ CellsAt w3 (⟨b2, 0, none⟩ : Addr) cs2.toList ∧ Ret (StRes k t w) (.returned (Value.tuple #[(Value.agg cs2), (Value.bool false)])) w3))) := by
    intro w' xs hx hxl hone own hf
    refine ⟨xs.toArray, hxl, own.cells, chk_of (decide_eq_true hxl) ?_⟩
    refine own.put hxl hone fun w3 k3 o3 => ?_
    exact ⟨xs.toArray, hxl, o3.cells, Ret.mk ⟨hx.then k3 fun i hi => by omega, .inr ⟨hf, xs.toArray, hxl, hone, rfl⟩⟩⟩
  unfold leaf_state.l1
  refine ⟨fun t0p t0n t0c t3 t4 t14 w' => b1 = t3 ∧ b2 = t4 ∧ 0 ≤ t14 ∧ t14 ≤ 8 ∧ okR k t t14.toNat = true ∧ (rdR k t t14.toNat).2.length = t0n ∧ t0n ≤ t0c ∧ t0n ≤ 100000 ∧ CellsO w t0p (v8 (rdR k t t14.toNat).2) ∧ Ex w w' ∧ Owns w' 0 ty_api_Plat 2 (some ⟨b1, 0, none⟩) 1 1 (two s k) ∧
      ∃ ps, Owns w' 0 ty_api_State 24 (some ⟨b2, 0, none⟩) 1 1 (stC (fl (rdR k t t14.toNat).1) ps) ∧ StO w' (fl (rdR k t t14.toNat).1) ps ∧ ∀ j, t14.toNat ≤ j → j < 8 → ps[j]? = some (.slice none 0 0),
    fun t0p t0n t0c t3 t4 t14 w' => (8 - t14).toNat, ⟨rfl, rfl, by omega, by omega, rfl, rfl, hcap, hl, hc, hx2, o1.lower (Nat.zero_le _), _, o2, StO.zero _, fun j _ hj => by rw [List.getElem?_replicate, if_pos hj]⟩, ?_⟩
  rintro t0p t0n t0c _ _ t14 w' ⟨rfl, rfl, h0, h8, hokr, hn, hcap', hl', hct, hx, own1, ps, own, hst, hnil⟩
  unfold leaf_state.b1
  obtain ⟨i, rfl⟩ := Int.eq_ofNat_of_zero_le h0
  rw [Int.toNat_natCast] at hokr hn hct own hst hnil
  have hbi := rdR_bytes (k := k) hb i
  have hRl := rdR_len k t i
  generalize hti : (rdR k t i).2 = ti at hn hct hbi
  subst hn
  refine cond_of (fun hlt => ?_) (fun hlt => ?_)
  · have hlt := of_decide_eq_true hlt
    have hi : i < 8 := by omega
    have hpl8 := hst.pls
    have hone : AllOne (stC (fl (rdR k t i).1) ps) := hst.at.one
    refine cond_of (fun hc2 => ?_) (fun hc2 => ?_)
    · have hc2 := of_decide_eq_true hc2
      refine bad hx hst.at.clen hone own (okAll_false hi ?_)
      rw [hti]
      match ti, hc2 with
      | [], _ => rfl
      | [a], _ => rfl
      | a :: b :: r, h => simp only [List.length_cons] at h; omega
    have hc2 := of_decide_eq_false hc2
    obtain ⟨a, b, r, rfl⟩ : ∃ a b r, ti = a :: b :: r := by
      match ti, hc2 with
      | [], h => simp at h
      | [a], h => simp at h
      | a :: b :: r, _ => exact ⟨a, b, r, rfl⟩
    have ha := hbi a (by simp)
    have hbb := hbi b (by simp)
    have hbr : Bytes r := fun x hx => hbi x (List.mem_cons_of_mem _ (List.mem_cons_of_mem _ hx))
    have hlen2 : (a :: b :: r).length = r.length + 2 := rfl
    have d := Ex.drew w'
    have hxd := hx.trans d
    have hcw : CellsO w'.drew t0p (v8 (a :: b :: r)) := hct.ex hxd
    obtain ⟨ad, rfl, r0⟩ := hcw.one (v := .int .u8 a) rfl
    refine chk_of (decide_eq_true (by omega)) ?_
    try dsimp only [dI_i64, dI_u8, dI_u16, dI_u32, dB_bool, dS_slice, dP_ptr, dT_tup, dA_agg, dStr_str, dF_f, dC_c, dM_m, optP_some, ga0, ga1, ga2, ga3, ga4, cond_true, cond_false, chk_true, Bool.not_true, Bool.not_false, Option.isNone_none, Option.isNone_some, List.toList_toArray]
    refine ⟨a, r0, chk_of (decide_eq_true (by omega)) ?_⟩
    refine ⟨b, hcw 1 _ rfl, ?_⟩
    rintro b3 w4 rfl rfl
    have o3 := Owns.new (w := w'.drew) [.int .i64 0, .int .i64 0] ty_api_Entry
    have x4 := Ex.alloc w'.drew (.cells [Value.int .i64 0, .int .i64 0].toArray ty_api_Entry)
    have hb3 : w'.heap.size ≤ w'.drew.heap.size := d.size
    have hb2lt : b2 < w'.heap.size := (own.ge rfl).2
    generalize w'.drew.heap.size = b3 at o3 hb3 ⊢
    generalize w'.drew.alloc (.cells #[.int .i64 0, .int .i64 0] ty_api_Entry) = w4 at o3 x4 ⊢
    have hc4 : CellsO w4 (some ad) (v8 (a :: b :: r)) := CellsO.ex x4 hcw
    have at0 : w4.cell? ad = some (.int .u8 a) := by
      have := hc4 0 _ rfl
      rwa [show ad.add 0 = ad from Addr.add_zero' ad] at this
    refine ⟨rfl, hc4 1 _ rfl, at0, ?_⟩
    rw [w64 (x := a) (by omega) (by omega), w64 (x := b) (by omega) (by omega)]
    refine o3.put (cs := two a b) (by rfl) (two_one' _ _) fun w5 k5 o5 => ?_
    have x5 : Ex w' w5 := (d.trans x4).then k5 fun i hi => by omega
    refine chk_of (decide_eq_true (by omega)) ?_
    refine ⟨b, o5.at (by rfl), ?_⟩
    rw [w64 (x := 2 * b) (by omega) (by omega)]
    refine cond_of (fun hs => ?_) (fun hs => ?_)
    · have hs := of_decide_eq_true hs
      refine bad (hx.trans x5) hst.at.clen hone (own.ex x5) (okAll_false hi ?_)
      rw [hti]
      show (decide (2 * b ≤ (r.length : Int)) && _) = false
      rw [decide_eq_false (by omega)]
      rfl
    have hs := of_decide_eq_false hs
    have hs2 : 2 * b ≤ (r.length : Int) := by omega
    refine ⟨b, o5.at (by rfl), ?_⟩
    rw [w64 (x := 2 * b) (by omega) (by omega)]
    refine chk_of (decide_eq_true (by omega)) (chk_of (decide_eq_true (by omega)) ?_)
    have e2b : (2 * b).toNat = 2 * b.toNat := by omega
    rw [e2b, slA_zero]
    have hcr0 : CellsO w (slA (some ad) t0c 2 1) (v8 r) := by
      have := from_ hct hcap' 2
      exact this
    have hcr : CellsO w5 (slA (some ad) t0c 2 1) (v8 (r.take (2 * b.toNat))) := by
      have := CellsO.take (CellsO.ex (hx.trans x5) hcr0) (2 * b.toNat)
      unfold v8 at this ⊢
      rwa [← List.map_take] at this
    have htl : (r.take (2 * b.toNat)).length = 2 * b.toNat := by rw [List.length_take]; omega
    refine callP.use (Cel.Unrow_spec _ _ (t0c - 2) (r.take (2 * b.toNat)) 2 w5 hcr htl (by omega) (by omega) (hbr.take _)) ?_
    rintro _ w7 ⟨p1, n1, c1, rfl, hn1, o7, x7⟩
    try dsimp only [dI_i64, dI_u8, dI_u16, dI_u32, dB_bool, dS_slice, dP_ptr, dT_tup, dA_agg, dStr_str, dF_f, dC_c, dM_m, optP_some, ga0, ga1, ga2, ga3, ga4, cond_true, cond_false, chk_true, Bool.not_true, Bool.not_false, Option.isNone_none, Option.isNone_some, List.toList_toArray]
    have hun : Cel.unB 2 (r.take (2 * b.toNat)) = Cel.unL 2 b.toNat r := by
      have := (Cel.un_in (k := 2) (by omega) (by omega) 0 (r.take (2 * b.toNat))).2
      have e2 : ((2 : Nat) : Int) = 2 := rfl
      rw [e2] at this
      rw [this, htl, if_pos (by omega)]
      have : 2 * b.toNat / 2 = b.toNat := by omega
      rw [this, unL_take]
    rw [hun] at o7
    have hn1' : n1 = b.toNat := by
      have := o7.1
      unfold Cel.v64 at this
      rw [List.length_map, Cel.unL_length] at this
      omega
    subst hn1'
    have y7 := x5.trans x7
    have own7 := own.ex y7
    have hst7 := hst.ex y7
    have own17 := own1.ex y7
    have o57 := o5.ex x7
    have hx7 := hx.trans y7
    have hB7 : b2 < w7.heap.size := (own7.ge rfl).2
    have hb3lt : b3 < w7.heap.size := (o57.ge rfl).2
    have hb1lt7 : b1 < w7.heap.size := (own17.ge rfl).2
    have hp17 : ∀ x, p1 = some x → x.block < w7.heap.size := fun x hx => (o7.ge hx).2
    have hK16 : (kinds (fl (rdR k t i).1)).length = 16 := hst.at.klen
    have hb2b1 : b1 ≠ b2 := by omega
    unfold leaf_state.l2
    refine ⟨fun t0p t0n' t0c' t3 t4 t6 t7 t14 t48p t48n t48c t49 t50 w'' => t0p = slA (some ad) t0c 2 1 ∧ t0n' = r.length ∧ t0c' = t0c - 2 ∧ b1 = t3 ∧ b2 = t4 ∧ (i : Int) = t6 ∧ b3 = t7 ∧ (i : Int) = t14 ∧ p1 = t48p ∧ b.toNat = t48n ∧ ((b.toNat : Nat) : Int) = t49 ∧ 0 ≤ t50 ∧ t50 ≤ b.toNat ∧ (∀ j, j < t50.toNat → plOk k (Cel.cut1 2 r j) = true) ∧ Kp w7 w'' (fun x => x = b2 ∨ w7.heap.size ≤ x) ∧
        ∃ p c, Owns w'' 0 ty_api_State 24 (some ⟨b2, 0, none⟩) 1 1 (kinds (fl (rdR k t i).1) ++ ps.set i (.slice p t50.toNat c)) ∧ Owns w'' w7.heap.size ty_complex128 1 p t50.toNat c ((((List.range t50.toNat).map (Cel.cut1 2 r)).map (pl2 k)).map plV),
      fun t0p t0n' t0c' t3 t4 t6 t7 t14 t48p t48n t48c t49 t50 w'' => (b.toNat - t50).toNat, ⟨rfl, rfl, rfl, rfl, rfl, rfl, rfl, rfl, rfl, rfl, rfl, by omega, by omega, fun j hj => by simp at hj, Kp.refl _ _, none, 0, ?_, Owns.nil _ _ _ _⟩, ?_⟩
    · have : ps.set i (.slice none (0 : Int).toNat 0) = ps := by
        apply List.ext_getElem?
        intro j
        rw [List.getElem?_set]
        split
        · rename_i h
          subst h
          rw [if_pos (by omega), hnil i (Nat.le_refl _) hi]
          rfl
        · rfl
      rw [this]
      exact own7
    rintro _ _ _ _ _ _ _ _ _ _ t48c _ t50 w'' ⟨rfl, rfl, rfl, rfl, rfl, rfl, rfl, rfl, rfl, rfl, rfl, i0, i1, hpo, hkp, p, c, owb, row⟩
    unfold leaf_state.b2
    obtain ⟨j, rfl⟩ := Int.eq_ofNat_of_zero_le i0
    rw [Int.toNat_natCast] at hpo owb row
    have hxx : Ex w w'' := hx7.then hkp fun x hx => by have := hx7.size; omega
    have keepb : ∀ x, x < w7.heap.size → x ≠ b2 → ¬ (x = b2 ∨ w7.heap.size ≤ x) := fun x h1 h2 h => by omega
    refine cond_of (fun hcj => ?_) (fun hcj => ?_)
    · have hcj := of_decide_eq_true hcj
      have hj : j < b.toNat := by omega
      have hrow' : CellsO w'' p1 (Cel.v64 (Cel.unL 2 b.toNat r)) := o7.cells.kp hkp fun x hx => keepb _ (hp17 x hx) (fun h => by
        have t1 := (o7.typed hx).1
        have t2 := (own7.typed rfl).1
        exact t1.ne t2 (by decide) h)
      obtain ⟨ap, rfl, rj⟩ := hrow'.many (j := j) (v := .int .i64 (Cel.cut1 2 r j)) (by unfold Cel.v64; rw [List.getElem?_map, unL_get hj]; rfl)
      refine chk_of (decide_eq_true i0) (chk_of (decide_eq_true hcj) ?_)
      try dsimp only [dI_i64, dI_u8, dI_u16, dI_u32, dB_bool, dS_slice, dP_ptr, dT_tup, dA_agg, dStr_str, dF_f, dC_c, dM_m, optP_some, ga0, ga1, ga2, ga3, ga4, cond_true, cond_false, chk_true, Bool.not_true, Bool.not_false, Option.isNone_none, Option.isNone_some, List.toList_toArray]
      rw [Int.toNat_natCast, Nat.mul_one]
      refine ⟨_, rj, ?_⟩
      have hcr1 := cut_range hbr j
      have hnext : IntKind.i64.wrap ((j : Int) + 1) = ((j + 1 : Nat) : Int) := by rw [w64 (by omega) (by omega)]; rfl
      have htn : ((j + 1 : Nat) : Int).toNat = j + 1 := rfl
      have howl : w7.heap.size ≤ w''.heap.size := hkp.size
      -- one place more
      have more1 : ∀ {w3 : World}, Ex w'' w3 → plOk k (Cel.cut1 2 r j) = true → ∀ {q : Pl}, q = pl2 k (Cel.cut1 2 r j) →
          leaf_state.k1 (slA (some ad) t0c 2 1) r.length (t0c - 2) b1 b2 (i : Int) b3 (plR q) (plM q) (i : Int) (some ap) b.toNat t48c ((b.toNat : Nat) : Int) (j : Int) w3 (Ret (StRes k t w)) (fun t0p' t0n' t0c' t3' t4' t14' w' => (b1 = t3' ∧ b2 = t4' ∧ 0 ≤ t14' ∧ t14' ≤ 8 ∧ okR k t t14'.toNat = true ∧ (rdR k t t14'.toNat).2.length = t0n' ∧ t0n' ≤ t0c' ∧ t0n' ≤ 100000 ∧ CellsO w t0p' (v8 (rdR k t t14'.toNat).2) ∧ Ex w w' ∧ Owns w' 0 ty_api_Plat 2 (some ⟨b1, 0, none⟩) 1 1 (two s k) ∧
      ∃ ps, Owns w' 0 ty_api_State 24 (some ⟨b2, 0, none⟩) 1 1 (stC (fl (rdR k t t14'.toNat).1) ps) ∧ StO w' (fl (rdR k t t14'.toNat).1) ps ∧ ∀ j, t14'.toNat ≤ j → j < 8 → ps[j]? = some (.slice none 0 0)) ∧ (8 - t14').toNat < (8 - (i : Int)).toNat) (fun t0p t0n' t0c' t3 t4 t6 t7 t14 t48p t48n t48c t49 t50 w'' => (t0p = slA (some ad) t0c 2 1 ∧ t0n' = r.length ∧ t0c' = t0c - 2 ∧ b1 = t3 ∧ b2 = t4 ∧ (i : Int) = t6 ∧ b3 = t7 ∧ (i : Int) = t14 ∧ some ap = t48p ∧ b.toNat = t48n ∧ ((b.toNat : Nat) : Int) = t49 ∧ 0 ≤ t50 ∧ t50 ≤ b.toNat ∧ (∀ j, j < t50.toNat → plOk k (Cel.cut1 2 r j) = true) ∧ Kp w7 w'' (fun x => x = b2 ∨ w7.heap.size ≤ x) ∧
        ∃ p c, Owns w'' 0 ty_api_State 24 (some ⟨b2, 0, none⟩) 1 1 (kinds (fl (rdR k t i).1) ++ ps.set i (.slice p t50.toNat c)) ∧ Owns w'' w7.heap.size ty_complex128 1 p t50.toNat c ((((List.range t50.toNat).map (Cel.cut1 2 r)).map (pl2 k)).map plV)) ∧ (b.toNat - t50).toNat < (b.toNat - (j : Int)).toNat) := by
        intro w3 x3 hok1 q hq
        unfold leaf_state.k1
        refine push_pl (q := q) hi hK16 (by rw [List.length_set]; exact hpl8) (owb.ex x3) (by rw [List.getElem?_set, if_pos rfl, if_pos (by omega)]) (row.ex x3) (by omega) (Nat.le_trans howl x3.size) fun p' c' w14 k14 o14 r14 => ?_
        rw [List.set_set] at o14
        rw [hnext]
        refine ⟨⟨rfl, rfl, rfl, rfl, rfl, rfl, rfl, rfl, rfl, rfl, rfl, by omega, by omega, ?_, (hkp.tr (x3.kp _)).tr k14, p', c', by rw [htn]; exact o14, ?_⟩, by ((try dsimp only); omega)⟩
        · intro j' hj'
          rw [htn] at hj'
          by_cases he : j' = j
          · rw [he]; exact hok1
          · exact hpo j' (by omega)
        · rw [htn, List.range_succ]
          simp only [List.map_append, List.map_cons, List.map_nil]
          rw [← hq]
          exact r14
      refine cond_of (fun hpos => ?_) (fun hpos => ?_)
      · have hpos := of_decide_eq_true hpos
        have hk1 : w''.cell? (⟨b1, 1, none⟩ : Addr) = some (.int .i64 k) := (own17.kp hkp fun x hx => by cases hx; exact keepb _ hb1lt7 hb2b1).at (by rfl)
        refine ⟨k, hk1, ?_⟩
        rw [w64 (x := Cel.cut1 2 r j - 1) (by omega) (by omega)]
        refine callP.use (Place_spec (n := Cel.cut1 2 r j) ⟨by omega, hcr1.2⟩ hk w'') ?_
        rintro _ w9 ⟨e, rfl, he, x9⟩
        try dsimp only [dI_i64, dI_u8, dI_u16, dI_u32, dB_bool, dS_slice, dP_ptr, dT_tup, dA_agg, dStr_str, dF_f, dC_c, dM_m, optP_some, ga0, ga1, ga2, ga3, ga4, cond_true, cond_false, chk_true, Bool.not_true, Bool.not_false, Option.isNone_none, Option.isNone_some, List.toList_toArray]
        refine cond_of (fun hcx => ?_) (fun hcx => ?_)
        · have hcx : ¬ e = 0 := by simpa using hcx
          have hno : plOk k (Cel.cut1 2 r j) = false := by
            cases hp : plOk k (Cel.cut1 2 r j) with
            | false => rfl
            | true => exact absurd (he.2 hp) hcx
          refine bad (hxx.trans x9) ?_ ((kinds_one _).app (hst.ones.set _ rfl)) (owb.ex x9) (okAll_false hi ?_)
          · rw [List.length_append, hK16, List.length_set, hpl8]
          · rw [hti]
            show (_ && (Cel.unL 2 b.toNat r).all (plOk k)) = false
            have : (Cel.unL 2 b.toNat r).all (plOk k) = false := by
              rw [List.all_eq_false]
              exact ⟨_, List.mem_of_getElem? (unL_get hj), by rw [hno]; simp⟩
            rw [this, Bool.and_false]
        · have hcx : e = 0 := by simpa using hcx
          exact more1 x9 (he.1 hcx) rfl
      · have hpos := of_decide_eq_false hpos
        have hz : Cel.cut1 2 r j = 0 := by omega
        have hq : (none : Pl) = pl2 k (Cel.cut1 2 r j) := by rw [hz]; rfl
        exact more1 (Ex.refl _) (by rw [hz]; rfl) hq
    · have hcj := of_decide_eq_false hcj
      have hj : j = b.toNat := by omega
      subst hj
      unfold leaf_state.k2
      have dd := Ex.drew w''
      have o5d : Owns w''.drew b3 ty_api_Entry 2 (some ⟨b3, 0, none⟩) 1 1 (two a b) := (o57.kp hkp fun x hx => by cases hx; exact keepb _ hb3lt (show b3 ≠ b2 by omega)).ex dd
      refine ⟨(two a b).toArray, rfl, o5d.cells, b, o5d.at (by rfl), ?_⟩
      rw [w64 (x := 2 * b) (by omega) (by omega)]
      refine chk_of (decide_eq_true (by omega)) (chk_of (decide_eq_true (by omega)) (chk_of (decide_eq_true h0) (chk_of (decide_eq_true hlt) (chk_of (by rfl) ?_))))
      rw [Int.toNat_natCast, e2b]
      refine putAt (owb.ex dd) (i * 2) (ys := two a b) (by show i * 2 + 2 ≤ _; omega) (two_one' _ _) fun w15 k15 o15 => ?_
      have hne : b3 ≠ b2 := by omega
      have o5f := o5d.kp k15 (fun y hy => by cases hy; exact hne)
      refine ⟨o5f.at (by rfl), ?_⟩
      rw [stC_put hst.len hi a b ((Cel.unL 2 b.toNat r).map (pl2 k))] at o15
      rw [wrap_next hi]
      have htn : ((i + 1 : Nat) : Int).toNat = i + 1 := rfl
      have hmin : min b.toNat (r.length / 2) = b.toNat := by omega
      have hrd : rdE k (a :: b :: r) = ((a, b, (Cel.unL 2 b.toNat r).map (pl2 k)), r.drop (2 * b.toNat)) := by
        show ((a, b, (Cel.unL 2 (min b.toNat (r.length / 2)) r).map (pl2 k)), r.drop (2 * min b.toNat (r.length / 2))) = _
        rw [hmin]
      have hsucc : rdR k t (i + 1) = ((rdR k t i).1 ++ [(a, b, (Cel.unL 2 b.toNat r).map (pl2 k))], r.drop (2 * b.toNat)) := by
        show ((rdR k t i).1 ++ [(rdE k (rdR k t i).2).1], (rdE k (rdR k t i).2).2) = _
        rw [hti, hrd]
      have hokE : okE k (a :: b :: r) = true := by
        show (decide (2 * b ≤ (r.length : Int)) && (Cel.unL 2 b.toNat r).all (plOk k)) = true
        rw [decide_eq_true hs2, Bool.true_and, List.all_eq_true]
        intro n hn
        obtain ⟨jj, hjj, rfl⟩ := List.mem_map.1 hn
        exact hpo jj (List.mem_range.1 hjj)
      have hokr1 : okR k t (i + 1) = true := by
        show (okR k t i && okE k (rdR k t i).2) = true
        rw [hokr, hti, hokE]
        rfl
      have hent : okEnt (a, b, (Cel.unL 2 b.toNat r).map (pl2 k)) := ⟨pls_ok hbr, by show ((Cel.unL 2 b.toNat r).map (pl2 k)).length ≤ 1000; rw [List.length_map, Cel.unL_length]; omega, ha, hbb⟩
      rw [htn, hsucc]
      dsimp only
      have tb : ∀ x, x = b2 → Typed w''.drew ty_api_State x := fun x hx => by rw [hx]; exact ((owb.ex dd).typed rfl).1
      refine ⟨⟨rfl, rfl, by omega, by omega, hokr1, ?_, ?_, by omega, ?_, (hxx.trans dd).then k15 fun x hx => by omega, ?_, ps.set i (.slice p b.toNat c), ?_, ?_, ?_⟩, by ((try dsimp only); omega)⟩
      · rw [List.length_drop]
      · omega
      · exact from_ hcr0 (by omega) (2 * b.toNat)
      · exact (((own17.kp hkp fun x hx => by cases hx; exact keepb _ hb1lt7 hb2b1).ex dd).away k15 ty_api_State tb (by decide))
      · unfold stC
        rw [← fl_set hRl hi]
        exact o15
      · rw [← fl_set hRl hi]
        have hst15 : StO w15 (fl (rdR k t i).1) ps := ((hst7.kp hkp fun x ht hx => keepb _ hx (fun h => ht.ne (own7.typed rfl).1 (by decide) h)).ex dd).away k15 ty_api_State tb (by decide)
        refine hst15.set hi hent (by show ((Cel.unL 2 b.toNat r).map (pl2 k)).length = _; rw [List.length_map, Cel.unL_length]) ?_
        exact ((row.lower (Nat.zero_le _)).ex dd).away k15 ty_api_State tb (by decide)
      · intro jj h1 h2
        rw [List.getElem?_set, if_neg (by omega)]
        exact hnil jj (by omega) h2
  · have hlt := of_decide_eq_false hlt
    obtain rfl : i = 8 := by omega
    unfold leaf_state.k3
    have hfl : fl (rdR k t 8).1 = (rdR k t 8).1 := fl_full hRl
    rw [hfl] at own hst
    have hcl := hst.at.clen
    refine ⟨(stC (rdR k t 8).1 ps).toArray, by rw [List.size_toArray]; exact hcl, own.cells, chk_of (decide_eq_true (by rw [List.size_toArray]; exact hcl)) ?_⟩
    have tb : ∀ x, x = b2 → Typed w' ty_api_State x := fun x hx => by rw [hx]; exact (own.typed rfl).1
    refine own.put hcl hst.at.one fun w16 k16 o16 => ?_
    refine ⟨(stC (rdR k t 8).1 ps).toArray, by rw [List.size_toArray]; exact hcl, o16.cells, Ret.mk ⟨hx.then k16 fun i hi => by omega, ?_⟩⟩
    have hall : okAll k t = decide (ti.length = 0) := by
      unfold okAll
      rw [hokr, hti, Bool.true_and]
    by_cases h0 : ti.length = 0
    · left
      rw [hall, decide_eq_true h0]
      refine ⟨rfl, ps, ?_, hst.away k16 ty_api_State tb (by decide)⟩
      rw [h0]
      rfl
    · right
      rw [hall, decide_eq_false h0]
      refine ⟨rfl, (stC (rdR k t 8).1 ps).toArray, by rw [List.size_toArray]; exact hcl, hst.at.one, ?_⟩
      have : (((ti.length : Nat) : Int) == 0) = false := by simpa using h0
      rw [this]
end Go.Proofs.Ythgmebhkbbehmaa.G.En
