/-
  The library's functions that a Strand uses: Clone, Contains, BinarySearch, Insert; floats that are small whole numbers.
-/
import Derived.Test.YthopiffhkldnhaaG1
import Derived.Test.YthopiffhkldnhaaG2
import Derived.Test.YthopiffhkldnhaaG3
import Derived.Test.YthopiffhkldnhaaDecW
namespace Go.Proofs.Ythopiffhkldnhaa.G
open Go.Dec Go.RowKit
set_option linter.unusedVariables false
set_option linter.unusedSimpArgs false

theorem getE {α : Type} {l : List α} {i : Nat} (h : i < l.length) : ∃ x, l[i]? = some x ∧ x ∈ l ∧ l.drop i = x :: l.drop (i + 1) := ⟨l[i], List.getElem?_eq_getElem h, List.getElem_mem h, List.drop_eq_getElem_cons h⟩
def i64s (l : List Int) : List Value := l.map (Value.int .i64)
theorem i64s_one (l : List Int) : ∀ y ∈ i64s l, y.oneCell' = true := vals_one _ _
theorem i64s_at {l : List Int} {i : Nat} {x : Int} (h : l[i]? = some x) : (i64s l)[i]? = some (.int .i64 x) := by unfold i64s; rw [List.getElem?_map, h]; rfl
theorem i64s_len (l : List Int) : (i64s l).length = l.length := by simp [i64s]

/-! ### Small whole numbers -/
def fl (k : Int) : Nat := FloatKind.f64.nearest k
theorem fl_table : ∀ k j : Fin 25, fCmp .eql (FloatKind.f64.nearest ((k.val : Nat) : Int)) (FloatKind.f64.nearest ((j.val : Nat) : Int)) = decide (k.val = j.val) := by decide +kernel
theorem fl_eq {a b : Int} (ha : 0 ≤ a ∧ a < 25) (hb : 0 ≤ b ∧ b < 25) : fCmp .eql (fl a) (fl b) = decide (a = b) := by
  have := fl_table ⟨a.toNat, by omega⟩ ⟨b.toNat, by omega⟩
  dsimp only at this
  rw [show ((a.toNat : Nat) : Int) = a by omega, show ((b.toNat : Nat) : Int) = b by omega] at this
  unfold fl
  rw [this]
  exact decide_eq_decide.2 (by omega)
theorem fl_zero : fl 0 = 0 := by kernel_rfl
theorem fl_one : fl 1 = 4607182418800017408 := by kernel_rfl
theorem fl_three : fl 3 = 4613937818241073152 := by kernel_rfl

/-! ### Clone -/
theorem Clone_spec (p : Option Addr) (n c : Nat) (xs : List Value) (w : World) (hc : CellsO w p xs) (hl : xs.length = n) (hn : n ≤ 1000000000000) (h1 : ∀ y ∈ xs, y.oneCell' = true) :
    slices_Clone_int_int.C p n c w (Ret fun v w' => ∃ p' c', v = .slice p' n c' ∧ Ex w w' ∧ Own w' w.heap.size 3 1 p' n c' xs) := by
  apply slices_Clone_int_int.ok
  unfold slices_Clone_int_int.main
  cases p with
  | none =>
    have : xs = [] := hc
    subst this
    have : n = 0 := by simpa using hl.symm
    subst this
    try dsimp only [dI_i64, dI_u8, dI_u16, dI_u32, dB_bool, dS_slice, dP_ptr, dT_tup, dA_agg, dStr_str, dF_f, dC_c, dM_m, optP_some, ga0, ga1, ga2, ga3, ga4, cond_true, cond_false, chk_true, Bool.not_true, Bool.not_false, Option.isNone_none, Option.isNone_some, List.toList_toArray]
    exact Ret.mk ⟨none, 0, rfl, Ex.refl w, Own.nil _ _ _ _⟩
  | some a =>
    try dsimp only [dI_i64, dI_u8, dI_u16, dI_u32, dB_bool, dS_slice, dP_ptr, dT_tup, dA_agg, dStr_str, dF_f, dC_c, dM_m, optP_some, ga0, ga1, ga2, ga3, ga4, cond_true, cond_false, chk_true, Bool.not_true, Bool.not_false, Option.isNone_none, Option.isNone_some, List.toList_toArray]
    rintro b1 w1 rfl rfl
    have ho := Own.alloc (w := w) [] 3 1 0 rfl
    have hx := Ex.alloc w (.cells #[] 3)
    refine appP_own ho (by have := hx.size; exact this) xs (CellsO.ex hx hc) (by omega) h1 rfl (by omega) (by omega) (fun p' c' w' ho' hk => ?_)
    rw [Nat.zero_add] at ho' ⊢
    rw [List.nil_append] at ho'
    exact Ret.mk ⟨p', c', rfl, hx.then hk (fun i ⟨x, e, hi⟩ => by cases e; exact Nat.le_of_eq hi), ho'⟩

/-! ### Contains -/
def has (l : List Int) (k : Int) : Bool := l.any fun x => k == x
theorem any_at {α : Type} {P : α → Bool} {l : List α} {i : Nat} {x : α} (hi : l[i]? = some x) (hx : P x = true) : l.any P = true := List.any_eq_true.2 ⟨x, List.mem_of_getElem? hi, hx⟩
theorem any_none {α : Type} {P : α → Bool} {l : List α} (h : ∀ (j : Nat) x, j < l.length → l[j]? = some x → P x = false) : l.any P = false := by
  rw [List.any_eq_false]
  intro x hx
  obtain ⟨j, hj⟩ := List.getElem?_of_mem hx
  have := h j x (List.getElem?_eq_some_iff.1 hj).1 hj
  simp [this]
theorem has_iff (l : List Int) (k : Int) : has l k = true ↔ k ∈ l := by
  unfold has
  rw [List.any_eq_true]
  constructor
  · rintro ⟨x, hx, h⟩
    have : k = x := by simpa using h
    rw [this]; exact hx
  · exact fun h => ⟨k, h, by simp⟩
theorem Contains_spec {w : World} {p : Option Addr} {n c : Nat} {xs : List Int} (hl : CellsO w p (i64s xs)) (hn : xs.length = n) (hb : n ≤ 1000000000000) (k : Int) : slices_Contains_int_int.C p n c k w (Ret fun v w' => v = .bool (has xs k) ∧ Ex w w') := by
  apply slices_Contains_int_int.ok
  unfold slices_Contains_int_int.main
  have main : slices_Index_int_int.C p n c k w (Ret fun v w' => ∃ r, v = .int .i64 r ∧ decide (r ≥ 0) = has xs k ∧ Ex w w') := by
    apply slices_Index_int_int.ok
    unfold slices_Index_int_int.main
    refine ⟨fun t0p t0n t0c t1 t7 t8 w' => p = t0p ∧ n = t0n ∧ c = t0c ∧ k = t1 ∧ t7 = (n : Int) ∧ 0 ≤ t8 ∧ t8 ≤ (n : Int) ∧ Ex w w' ∧ ∀ (j : Nat) x, j < t8.toNat → xs[j]? = some x → (k == x) = false, fun t0p t0n t0c t1 t7 t8 w' => ((n : Int) - t8).toNat, ?_, ?_⟩
    · exact ⟨rfl, rfl, rfl, rfl, rfl, by omega, by omega, Ex.refl w, fun j x hj => by simp at hj⟩
    rintro _ _ _ _ _ t8 w1 ⟨rfl, rfl, rfl, rfl, rfl, h0, h1, x1, hno⟩
    unfold slices_Index_int_int.b1
    refine cond_of (fun hc => ?_) (fun hc => ?_)
    · have hc := of_decide_eq_true hc
      obtain ⟨x, hx, hxm, _⟩ := getE (l := xs) (i := t8.toNat) (by omega)
      obtain ⟨a, rfl, hcell⟩ := (hl.ex x1).many (j := t8.toNat) (i64s_at hx)
      rw [← Nat.mul_one t8.toNat] at hcell
      refine chkd_of h0 (chkd_of hc ⟨x, hcell, ?_⟩)
      refine cond_of (fun hy => ?_) (fun hy => ?_)
      · exact Ret.mk ⟨t8, rfl, by rw [has, any_at hx hy]; simpa using h0, x1⟩
      · rw [w64 (by omega) (by omega)]
        refine ⟨⟨rfl, rfl, rfl, rfl, rfl, by omega, by omega, x1, fun j y hj hjy => ?_⟩, by ((try dsimp only); omega)⟩
        by_cases hjt : j < t8.toNat
        · exact hno j y hjt hjy
        · have : j = t8.toNat := by omega
          subst this
          rw [hx] at hjy
          cases hjy
          exact hy
    · have hc := of_decide_eq_false hc
      refine Ret.mk ⟨-1, rfl, ?_, x1⟩
      rw [has, any_none fun j x hj hx => hno j x (by omega) hx]
      decide
  refine callP.use main ?_
  rintro _ w1 ⟨r, rfl, hr, x1⟩
  try dsimp only [dI_i64, dI_u8, dI_u16, dI_u32, dB_bool, dS_slice, dP_ptr, dT_tup, dA_agg, dStr_str, dF_f, dC_c, dM_m, optP_some, ga0, ga1, ga2, ga3, ga4, cond_true, cond_false, chk_true, Bool.not_true, Bool.not_false, Option.isNone_none, Option.isNone_some, List.toList_toArray]
  rw [hr]
  exact Ret.mk ⟨rfl, x1⟩

/-! ### BinarySearch: the place of a number in a rising row -/
theorem Nan37 (a : Int) (w : World) : cmp_isNaN_int.C a w (Ret fun v w' => v = .bool false ∧ w' = w) := by
  apply cmp_isNaN_int.ok
  unfold cmp_isNaN_int.main
  exact Ret.mk ⟨by simp, rfl⟩
theorem Nan33 (a : Int) (w : World) : slices_isNaN_int.C a w (Ret fun v w' => v = .bool false ∧ w' = w) := by
  apply slices_isNaN_int.ok
  unfold slices_isNaN_int.main
  exact Ret.mk ⟨by simp, rfl⟩
theorem Less_spec (a b : Int) (w : World) : cmp_Less_int.C a b w (Ret fun v w' => v = .bool (decide (a < b)) ∧ w' = w) := by
  apply cmp_Less_int.ok
  unfold cmp_Less_int.main
  refine callP.use (Nan37 a w) ?_
  rintro _ w1 ⟨rfl, rfl⟩
  try dsimp only [dI_i64, dI_u8, dI_u16, dI_u32, dB_bool, dS_slice, dP_ptr, dT_tup, dA_agg, dStr_str, dF_f, dC_c, dM_m, optP_some, ga0, ga1, ga2, ga3, ga4, cond_true, cond_false, chk_true, Bool.not_true, Bool.not_false, Option.isNone_none, Option.isNone_some, List.toList_toArray]
  exact Ret.mk ⟨rfl, rfl⟩
def Rises (l : List Int) : Prop := l.Pairwise (· < ·)
theorem Search_spec {w : World} {p : Option Addr} {n c : Nat} {xs : List Int} (hl : CellsO w p (i64s xs)) (hn : xs.length = n) (hb : n ≤ 1000000000000) (hr : Rises xs) (k : Int) :
    slices_BinarySearch_int_int.C p n c k w (Ret fun v w' => w' = w ∧ ∃ (i : Nat) (f : Bool), v = .tuple #[.int .i64 (i : Int), .bool f] ∧ i ≤ n ∧ (∀ x ∈ xs.take i, x < k) ∧ ∀ x ∈ xs.drop i, k ≤ x) := by
  apply slices_BinarySearch_int_int.ok
  unfold slices_BinarySearch_int_int.main
  have lt_of : ∀ (i j : Nat) x y, xs[i]? = some x → xs[j]? = some y → i < j → x < y := fun i j x y hi hj hij => by
    have := List.pairwise_iff_getElem.1 hr i j (List.getElem?_eq_some_iff.1 hi).1 (List.getElem?_eq_some_iff.1 hj).1 hij
    rw [(List.getElem?_eq_some_iff.1 hi).2, (List.getElem?_eq_some_iff.1 hj).2] at this
    exact this
  have hcell : ∀ i : Nat, i < n → ∃ a x, p = some a ∧ xs[i]? = some x ∧ w.cell? (a.add (i * 1)) = some (.int .i64 x) := fun i hi => by
    obtain ⟨x, hx, _⟩ := getE (l := xs) (i := i) (by omega)
    obtain ⟨a, ha, hc⟩ := hl.many (j := i) (i64s_at hx)
    rw [← Nat.mul_one i] at hc
    exact ⟨a, x, ha, hx, hc⟩
  refine ⟨fun t0p t0n t0c t1 t6 t7 t8 w' => p = t0p ∧ n = t0n ∧ c = t0c ∧ k = t1 ∧ t6 = (n : Int) ∧ 0 ≤ t7 ∧ t7 ≤ t8 ∧ t8 ≤ (n : Int) ∧ w = w' ∧ (∀ (j : Nat) x, (j : Int) < t7 → xs[j]? = some x → x < k) ∧ (∀ (j : Nat) x, t8 ≤ (j : Int) → xs[j]? = some x → k ≤ x), fun t0p t0n t0c t1 t6 t7 t8 w' => (t8 - t7).toNat, ?_, ?_⟩
  · refine ⟨rfl, rfl, rfl, rfl, rfl, by omega, by omega, by omega, rfl, fun j x hj => by omega, fun j x hj hx => ?_⟩
    have := (List.getElem?_eq_some_iff.1 hx).1
    omega
  rintro _ _ _ _ _ lo hi w1 ⟨rfl, rfl, rfl, rfl, rfl, h0, h1, h2, rfl, hlo, hhi⟩
  unfold slices_BinarySearch_int_int.b1
  have hmid : IntKind.i64.wrap (Int.fdiv (IntKind.u64.wrap (IntKind.i64.wrap (lo + hi))) (2 ^ (min 1 IntKind.u64.bits))) = (lo + hi) / 2 := by
    have e1 : IntKind.u64.wrap (IntKind.i64.wrap (lo + hi)) = lo + hi := by
      rw [w64 (by omega) (by omega)]
      simp [IntKind.wrap, IntKind.signed, IntKind.bits]
      omega
    have e2 : (2 : Int) ^ (min 1 IntKind.u64.bits) = 2 := by decide
    rw [e1, e2, Int.fdiv_eq_ediv_of_nonneg _ (by omega), w64 (by omega) (by omega)]
  rw [hmid]
  refine cond_of (fun hc => ?_) (fun hc => ?_)
  · have hc := of_decide_eq_true hc
    obtain ⟨a, x, rfl, hx, hcx⟩ := hcell ((lo + hi) / 2).toNat (by omega)
    refine chkd_of (by omega) (chkd_of (by omega) ⟨x, hcx, ?_⟩)
    refine callP.use (Less_spec x k w) ?_
    rintro _ w2 ⟨rfl, rfl⟩
    try dsimp only [dI_i64, dI_u8, dI_u16, dI_u32, dB_bool, dS_slice, dP_ptr, dT_tup, dA_agg, dStr_str, dF_f, dC_c, dM_m, optP_some, ga0, ga1, ga2, ga3, ga4, cond_true, cond_false, chk_true, Bool.not_true, Bool.not_false, Option.isNone_none, Option.isNone_some, List.toList_toArray]
    refine cond_of (fun hlt => ?_) (fun hlt => ?_)
    · have hlt := of_decide_eq_true hlt
      rw [w64 (by omega) (by omega)]
      refine ⟨⟨rfl, rfl, rfl, rfl, rfl, by omega, by omega, by omega, rfl, fun j y hj hy => ?_, hhi⟩, by ((try dsimp only); omega)⟩
      by_cases hjm : j = ((lo + hi) / 2).toNat
      · subst hjm; rw [hx] at hy; cases hy; exact hlt
      · have := lt_of j _ y x hy hx (by omega)
        omega
    · have hlt := of_decide_eq_false hlt
      refine ⟨⟨rfl, rfl, rfl, rfl, rfl, by omega, by omega, by omega, rfl, hlo, fun j y hj hy => ?_⟩, by ((try dsimp only); omega)⟩
      by_cases hjm : j = ((lo + hi) / 2).toNat
      · subst hjm; rw [hx] at hy; cases hy; omega
      · have := lt_of _ j x y hx hy (by omega)
        omega
  · have hc := of_decide_eq_false hc
    have : hi = lo := by omega
    subst this
    have fin : ∀ f : Bool, Ret (fun v w' => w' = w ∧ ∃ (i : Nat) (f : Bool), v = .tuple #[.int .i64 (i : Int), .bool f] ∧ i ≤ n ∧ (∀ x ∈ xs.take i, x < k) ∧ ∀ x ∈ xs.drop i, k ≤ x) (.returned (.tuple #[.int .i64 hi, .bool f])) w := fun f => by
      refine Ret.mk ⟨rfl, hi.toNat, f, by rw [show ((hi.toNat : Nat) : Int) = hi by omega], by omega, fun x hx => ?_, fun x hx => ?_⟩
      · obtain ⟨j, hj⟩ := List.getElem?_of_mem hx
        rw [List.getElem?_take] at hj
        split at hj
        · exact hlo j x (by omega) hj
        · cases hj
      · obtain ⟨j, hj⟩ := List.getElem?_of_mem hx
        rw [List.getElem?_drop] at hj
        exact hhi _ x (by omega) hj
    unfold slices_BinarySearch_int_int.k1
    refine cond_of (fun hd => ?_) (fun _ => fin false)
    have hd := of_decide_eq_true hd
    obtain ⟨a, x, rfl, hx, hcx⟩ := hcell hi.toNat (by omega)
    refine chkd_of h0 (chkd_of (by omega) ⟨x, hcx, cond_of (fun _ => fin true) (fun _ => chkd_of h0 (chkd_of (by omega) ⟨x, hcx, ?_⟩))⟩)
    refine callP.use (Nan33 x w) ?_
    rintro _ w2 ⟨rfl, rfl⟩
    try dsimp only [dI_i64, dI_u8, dI_u16, dI_u32, dB_bool, dS_slice, dP_ptr, dT_tup, dA_agg, dStr_str, dF_f, dC_c, dM_m, optP_some, ga0, ga1, ga2, ga3, ga4, cond_true, cond_false, chk_true, Bool.not_true, Bool.not_false, Option.isNone_none, Option.isNone_some, List.toList_toArray]
    exact fin false

/-! ### Insert -/
def ins (l : List Int) (i : Nat) (v : Int) : List Int := l.take i ++ v :: l.drop i
theorem size3 (w : World) : (Go.sizeOf 3).run Try.prog w = .ok 1 w := tiok3.gives_size (H := w.heap) w rfl
theorem Insert_spec {w : World} {B : Nat} {p : Option Addr} {n c : Nat} {xs : List Int} (ho : Own w B 3 1 p n c (i64s xs)) (hB : B ≤ w.heap.size) (hn : n ≤ 1000000) {i : Nat} (hi : i ≤ n) {vb : Nat} {v : Int} (hv : w.heap[vb]? = some (.cells #[.int .i64 v] 3)) (hne : ∀ x, p = some x → vb ≠ x.block) :
    slices_Insert_int_int.C p n c (i : Int) (some ⟨vb, 0, none⟩) 1 1 w (Ret fun r w' => ∃ p' c', r = .slice p' (n + 1) c' ∧ Own w' B 3 1 p' (n + 1) c' (i64s (ins xs i v)) ∧ Kp w w' (fun j => ∃ x, p = some x ∧ x.block = j) ∧ (p' = p ∨ ∀ x, p' = some x → w.heap.size ≤ x.block)) := by
  apply slices_Insert_int_int.ok
  unfold slices_Insert_int_int.main
  have hxl : xs.length = n := by have := ho.1; rw [i64s_len] at this; omega
  have hvc : CellsO w (some ⟨vb, 0, none⟩) [.int .i64 v] := fun j y hj => by
    rw [Addr.add_lit]
    simp only [Nat.zero_add]
    rw [cell_of_block hv]
    rcases j with _ | j
    · exact hj
    · simp at hj
  have hwn : IntKind.i64.wrap ((n : Int) + ((1 : Nat) : Int)) = (n : Int) + 1 := by rw [w64 (by omega) (by omega)]; rfl
  have hwi : IntKind.i64.wrap ((i : Int) + ((1 : Nat) : Int)) = (i : Int) + 1 := by rw [w64 (by omega) (by omega)]; rfl
  have hwd : IntKind.i64.wrap ((n : Int) + 1 - (i : Int)) = (n : Int) + 1 - (i : Int) := w64 (by omega) (by omega)
  rw [hwn, hwi, hwd]
  have e1 : (i : Int).toNat = i := by omega
  have e2 : ((n : Int) + 1).toNat = n + 1 := by omega
  have e3 : ((i : Int) + 1).toNat = i + 1 := by omega
  have e4 : ((n : Int) + 1 - (i : Int)).toNat = n + 1 - i := by omega
  rw [e1, e2, e3, e4, ho.slA0 1]
  refine chkd_of (by omega) (chkd_of (by omega) ?_)
  rw [cond_neg (by decide)]
  refine cond_of (fun hin => ?_) (fun hin => ?_)
  · have hin : (i : Int) = (n : Int) := by simpa using hin
    have hin : i = n := by omega
    subst hin
    refine appP_own2 ho hB [.int .i64 v] hvc rfl (by simp [Value.oneCell']) rfl (by omega) (by omega) fun p' c' w' o' k' hp' => ?_
    have e : i64s xs ++ [.int .i64 v] = i64s (ins xs i v) := by
      unfold ins i64s
      rw [List.take_of_length_le (by omega), List.drop_eq_nil_of_le (by omega), List.map_append]
      rfl
    rw [e] at o'
    exact Ret.mk ⟨p', c', rfl, o', k', hp'⟩
  have hin : ¬ (i : Int) = (n : Int) := by simpa using hin
  have hlt : i < n := by omega
  obtain ⟨x0, hx0, _, hdrop⟩ := getE (l := xs) (i := i) (by omega)
  refine cond_of (fun hcap => ?_) (fun hcap => ?_)
  · have hcap := of_decide_eq_true hcap
    have hnc := ho.2.1
    refine chkd_of (by omega) (chkd_of (by omega) (chkd_of (by omega) ?_))
    have hless := ho.less (k := i) (by omega)
    refine appzP_grow hless (by omega) (by omega) (by omega) fun c' w2 zs hzs x2 o2 => ?_
    rw [show i + (n + 1 - i) = n + 1 by omega] at o2 ⊢
    have htl : ((i64s xs).take (i * 1)).length = i := by rw [List.length_take, i64s_len]; omega
    have hvc2 := hvc.ex x2
    have hsc : CellsO w2 (slA p c i 1) (i64s (xs.drop i)) := by
      have := (ho.cells.ex x2).slice c i n (by rw [i64s_len]; omega)
      rw [List.take_of_length_le (by rw [List.length_drop, i64s_len]; omega)] at this
      unfold i64s at this ⊢
      rwa [← List.map_drop] at this
    refine chkd_of (by omega) (chkd_of (by omega) ?_)
    refine copyP_at o2 i hvc2 (by simp; omega) (by simp; omega) (by simp [Value.oneCell']) fun w3 o3 k3 => ?_
    have hpn : ∀ x, p = some x → x.block ≠ w.heap.size := fun x hx => by have := (ho.typed hx).2.2; omega
    have hsc3 : CellsO w3.drew (slA p c i 1) (i64s (xs.drop i)) := by
      refine CellsO.ex (Ex.drew w3) (hsc.kp k3 fun x hx ⟨y, hy, hb⟩ => ?_)
      cases hy
      unfold slA at hx
      split at hx
      · exact hpn x hx hb.symm
      · cases p with
        | none => cases hx
        | some q =>
          simp only [Option.map_some, Option.some.injEq] at hx
          subst hx
          rw [add_block] at hb
          exact hpn q rfl hb.symm
    refine chkd_of (by omega) (chkd_of (by omega) (chkd_of (by omega) (chkd_of (by omega) ?_)))
    refine copyP_at (o3.ex (Ex.drew w3)) (i + 1) hsc3 (by rw [i64s_len, List.length_drop]; omega) (by rw [i64s_len, List.length_drop]; omega) (i64s_one _) fun w4 o4 k4 => ?_
    have hnew : ∀ j, (∃ x, some (⟨w.heap.size, 0, none⟩ : Addr) = some x ∧ x.block = j) → w.heap.size ≤ j := fun j ⟨x, hx, hj⟩ => by cases hx; exact Nat.le_of_eq hj
    have X4 : Ex w w4 := ((x2.then k3 hnew).trans (Ex.drew w3)).then k4 hnew
    have efin : List.take (i + 1) (List.take i ((i64s xs).take (i * 1) ++ zs) ++ [Value.int .i64 v] ++ List.drop (i + [Value.int .i64 v].length) ((i64s xs).take (i * 1) ++ zs)) ++ i64s (xs.drop i) ++ List.drop (i + 1 + (i64s (xs.drop i)).length) (List.take i ((i64s xs).take (i * 1) ++ zs) ++ [Value.int .i64 v] ++ List.drop (i + [Value.int .i64 v].length) ((i64s xs).take (i * 1) ++ zs)) = i64s (ins xs i v) := by
      have h1 : List.take i ((i64s xs).take (i * 1) ++ zs) = i64s (xs.take i) := by
        rw [List.take_append_of_le_length (by omega), List.take_take, Nat.mul_one, Nat.min_self]
        unfold i64s
        rw [List.map_take]
      rw [h1]
      have h2 : (i64s (xs.take i) ++ [Value.int .i64 v]).length = i + 1 := by rw [List.length_append, i64s_len, List.length_take]; simp; omega
      have h3 : ∀ (R : List Value), R.length ≤ n - i → List.drop (i + 1 + (i64s (xs.drop i)).length) (i64s (xs.take i) ++ [Value.int .i64 v] ++ R) = [] := fun R hR => List.drop_eq_nil_of_le (by
        rw [List.length_append, h2, i64s_len, List.length_drop]; omega)
      rw [h3 _ (by simp only [List.length_append, List.length_drop, List.length_take, i64s_len, List.length_cons, List.length_nil, hzs]; omega), List.take_append_of_le_length (by omega), List.take_of_length_le (by omega), List.append_nil]
      unfold ins i64s
      simp
    rw [efin] at o4
    exact Ret.mk ⟨_, c', rfl, o4.lower hB, X4.kp _, .inr fun x hx => by cases hx; exact Nat.le_refl _⟩
  · have hcap := of_decide_eq_false hcap
    have hp : ∃ b, p = some ⟨b, 0, none⟩ := by
      rcases ho.2.2 with ⟨_, h⟩ | ⟨b, _, _, h, _⟩
      · omega
      · exact ⟨b, h⟩
    obtain ⟨b, rfl⟩ := hp
    refine chkd_of (by omega) (chkd_of (by omega) (chkd_of (by omega) (chkd_of (by omega) ?_)))
    obtain ⟨ys, hys, om⟩ := ho.more (k := n + 1) (by omega) (by omega)
    have hblk : ∃ cur fr, w.heap[b]? = some (.cells cur 3 fr) ∧ cur.size ≠ 0 := by
      rcases ho.2.2 with ⟨h, _⟩ | ⟨b', cur, fr, h, _, hb, _, hcs, _⟩
      · cases h
      · cases h
        exact ⟨cur, fr, hb, by omega⟩
    obtain ⟨cur, fr, hb, hcur⟩ := hblk
    have hsl : slA (some (⟨b, 0, none⟩ : Addr)) c (i + 1) 1 = some ⟨b, if c = i + 1 then 0 else i + 1, none⟩ := by
      unfold slA
      split
      · rfl
      · simp [Addr.add_lit]
    rw [hsl]
    refine extP_overlaps Try.func34 (by kernel_rfl) (by kernel_rfl) (by kernel_rfl) (t := 24) (r := 4) (e := 3) (by kernel_rfl) Try.underlying24 size3 hv hb hcur (hne _ rfl) ?_
    try dsimp only [dI_i64, dI_u8, dI_u16, dI_u32, dB_bool, dS_slice, dP_ptr, dT_tup, dA_agg, dStr_str, dF_f, dC_c, dM_m, optP_some, ga0, ga1, ga2, ga3, ga4, cond_true, cond_false, chk_true, Bool.not_true, Bool.not_false, Option.isNone_none, Option.isNone_some, List.toList_toArray]
    simp only [Bool.not_true, Bool.not_false, cond_true, cond_false]
    rw [← hsl]
    have hsc : CellsO w.drew (slA (some ⟨b, 0, none⟩) c i 1) ((i64s (xs.drop i))) := by
      have := (ho.cells.ex (Ex.drew w)).slice c i n (by rw [i64s_len]; omega)
      rw [List.take_of_length_le (by rw [List.length_drop, i64s_len]; omega)] at this
      unfold i64s at this ⊢
      rwa [← List.map_drop] at this
    refine chkd_of (by omega) (chkd_of (by omega) (chkd_of (by omega) (chkd_of (by omega) ?_)))
    refine copyP_at (om.ex (Ex.drew w)) (i + 1) hsc (by rw [i64s_len, List.length_drop]; omega) (by rw [i64s_len, List.length_drop]; omega) (i64s_one _) fun w6 o6 k6 => ?_
    have hvc6 : CellsO w6 (some ⟨vb, 0, none⟩) [.int .i64 v] := (hvc.ex (Ex.drew w)).kp k6 fun x hx ⟨y, hy, hb⟩ => by
      cases hx; cases hy
      exact hne _ rfl hb.symm
    refine chkd_of (by omega) (chkd_of (by omega) ?_)
    refine copyP_at o6 i hvc6 (by simp; omega) (by simp; omega) (by simp [Value.oneCell']) fun w7 o7 k7 => ?_
    have hla : (i64s xs ++ ys).length = n + 1 := by rw [List.length_append, i64s_len, hys]; omega
    have efin : ∀ A : List Value, A.length = n + 1 → A.take i = i64s (xs.take i) → List.take i (List.take (i + 1) A ++ i64s (xs.drop i) ++ List.drop (i + 1 + (i64s (xs.drop i)).length) A) ++ [Value.int .i64 v] ++ List.drop (i + [Value.int .i64 v].length) (List.take (i + 1) A ++ i64s (xs.drop i) ++ List.drop (i + 1 + (i64s (xs.drop i)).length) A) = i64s (ins xs i v) := by
      intro A hA hAt
      have h0 : List.drop (i + 1 + (i64s (xs.drop i)).length) A = [] := List.drop_eq_nil_of_le (by rw [i64s_len, List.length_drop]; omega)
      have h1 : (List.take (i + 1) A).length = i + 1 := by rw [List.length_take]; omega
      rw [h0, List.append_nil, List.take_append_of_le_length (by omega), List.take_take, Nat.min_eq_left (by omega), hAt, List.drop_append_of_le_length (by simp; omega), List.drop_eq_nil_of_le (by simp; omega)]
      unfold ins i64s
      simp
    rw [efin _ hla (by
      rw [List.take_append_of_le_length (by rw [i64s_len]; omega)]
      unfold i64s
      rw [List.map_take])] at o7
    exact Ret.mk ⟨_, c, rfl, o7, (((Ex.drew w).kp _).tr k6).tr k7, .inl rfl⟩
end Go.Proofs.Ythopiffhkldnhaa.G
