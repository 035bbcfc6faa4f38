/-
  The empty state: plat.Check, plat.Capacity, delta.Sound, owner.Within, owner.all, owner.Fit, leaf.payload; leaf.put, leaf.sealed.
-/
import Derived.Test.YthgmebhkbbehmaaCel
import Derived.Test.YthgmebhkbbehmaaDecY
namespace Go.Proofs.Ythgmebhkbbehmaa.G
open Go.Dec Go.RowKit
set_option linter.unusedVariables false
set_option linter.unusedSimpArgs false

/-- the cells of the empty state -/
def zst : List Value := [.int .i64 0, .int .i64 0, .int .i64 0, .int .i64 0, .int .i64 0, .int .i64 0, .int .i64 0, .int .i64 0, .int .i64 0, .int .i64 0, .int .i64 0, .int .i64 0, .int .i64 0, .int .i64 0, .int .i64 0, .int .i64 0, .slice none 0 0, .slice none 0 0, .slice none 0 0, .slice none 0 0, .slice none 0 0, .slice none 0 0, .slice none 0 0, .slice none 0 0]
theorem zst_one : ∀ z ∈ zst, z.oneCell' = true := by
  intro z hz
  have : z = .int .i64 0 ∨ z = .slice none 0 0 := by
    simp only [zst, List.mem_cons, List.not_mem_nil, or_false] at hz
    rcases hz with h | h | h | h | h | h | h | h | h | h | h | h | h | h | h | h | h | h | h | h | h | h | h | h <;> simp [h]
  rcases this with rfl | rfl <;> rfl
theorem two_one {a b : Int} : ∀ z ∈ [Value.int .i64 a, .int .i64 b], z.oneCell' = true := by
  intro z hz
  simp only [List.mem_cons, List.not_mem_nil, or_false] at hz
  rcases hz with rfl | rfl <;> rfl
theorem platCheck_spec (s b : Int) (w : World) (hs : 6 ≤ s ∧ s ≤ 24) (hb : 2 ≤ b ∧ b ≤ 16) : plat_Check.C s b w (Ret fun v w' => v = .int .i64 0 ∧ Ex w w') := by
  apply plat_Check.ok
  unfold plat_Check.main
  rintro b1 w1 rfl rfl
  have o1 := Owns.new (w := w) [.int .i64 s, .int .i64 b] ty_api_Plat
  have x1 := Ex.alloc w (.cells [Value.int .i64 s, .int .i64 b].toArray ty_api_Plat)
  generalize w.alloc (.cells #[.int .i64 s, .int .i64 b] ty_api_Plat) = w1 at o1 x1 ⊢
  refine ⟨s, o1.at (by rfl), ?_⟩
  rw [condd_neg (by omega)]
  refine ⟨s, o1.at (by rfl), ?_⟩
  rw [condd_neg (by omega)]
  refine ⟨b, o1.at (by rfl), ?_⟩
  rw [condd_neg (by omega)]
  refine ⟨b, o1.at (by rfl), ?_⟩
  rw [condd_neg (by omega)]
  exact Ret.mk ⟨rfl, x1⟩
theorem Capacity_spec (w : World) : plat_Capacity.C 6 2 w (Ret fun v w' => v = .tuple #[.int .i64 4, .int .i64 0] ∧ Ex w w') := by
  apply plat_Capacity.ok
  unfold plat_Capacity.main
  rintro b1 w1 rfl rfl
  have o1 := Owns.new (w := w) [.int .i64 6, .int .i64 2] ty_api_Plat
  have x1 := Ex.alloc w (.cells [Value.int .i64 6, .int .i64 2].toArray ty_api_Plat)
  generalize w.alloc (.cells #[.int .i64 6, .int .i64 2] ty_api_Plat) = w1 at o1 x1 ⊢
  refine ⟨#[.int .i64 6, .int .i64 2], rfl, o1.cells, ?_⟩
  refine callP.use (platCheck_spec 6 2 _ (by omega) (by omega)) ?_
  rintro _ w2 ⟨rfl, x2⟩
  try dsimp only [dI_i64, dI_u8, dI_u16, dI_u32, dB_bool, dS_slice, dP_ptr, dT_tup, dA_agg, dStr_str, dF_f, dC_c, dM_m, optP_some, ga0, ga1, ga2, ga3, ga4, cond_true, cond_false, chk_true, Bool.not_true, Bool.not_false, Option.isNone_none, Option.isNone_some, List.toList_toArray]
  rw [cond_neg (by rfl)]
  exact ⟨6, (o1.ex x2).at (by rfl), 2, (o1.ex x2).at (by rfl), Ret.mk ⟨rfl, x1.trans x2⟩⟩
theorem in_spec (n a b : Int) (w : World) : delta_in.C n a b w (Ret fun v w' => v = .bool (decide (a ≤ n) && decide (n < b)) ∧ w' = w) := by
  apply delta_in.ok
  unfold delta_in.main
  refine cond_of (fun h => ?_) (fun h => ?_)
  · have h : a ≤ n := of_decide_eq_true h
    exact Ret.mk ⟨by simp [h], rfl⟩
  · have h : ¬ a ≤ n := of_decide_eq_false h
    exact Ret.mk ⟨by simp [h], rfl⟩
theorem has63 (q : Nat) (w : World) : slices_ContainsFunc_complex128_complex128.C none 0 0 (.func (.func 85) #[] #[.pointer (some ⟨q, 0, none⟩)]) w (Ret fun v w' => v = .bool false ∧ w' = w) := by
  apply slices_ContainsFunc_complex128_complex128.ok
  unfold slices_ContainsFunc_complex128_complex128.main
  have h : slices_IndexFunc_complex128_complex128_f85.C none 0 0 q w (Ret fun v w' => v = .int .i64 (-1) ∧ w' = w) := by
    apply slices_IndexFunc_complex128_complex128_f85.ok
    unfold slices_IndexFunc_complex128_complex128_f85.main slices_IndexFunc_complex128_complex128_f85.l1
    refine ⟨fun t0p t0n t0c t1 t7 t8 w' => t7 = 0 ∧ t8 = 0 ∧ w' = w, fun _ _ _ _ _ _ _ => 0, ⟨rfl, rfl, rfl⟩, ?_⟩
    rintro t0p t0n t0c t1 _ _ _ ⟨rfl, rfl, rfl⟩
    unfold slices_IndexFunc_complex128_complex128_f85.b1
    rw [condd_neg (by omega)]
    exact Ret.mk ⟨rfl, rfl⟩
  refine callP.use h ?_
  rintro _ _ ⟨rfl, rfl⟩
  try dsimp only [dI_i64, dI_u8, dI_u16, dI_u32, dB_bool, dS_slice, dP_ptr, dT_tup, dA_agg, dStr_str, dF_f, dC_c, dM_m, optP_some, ga0, ga1, ga2, ga3, ga4, cond_true, cond_false, chk_true, Bool.not_true, Bool.not_false, Option.isNone_none, Option.isNone_some, List.toList_toArray]
  exact Ret.mk ⟨rfl, rfl⟩
theorem has75 (w : World) : slices_ContainsFunc_complex128_complex128.C none 0 0 (.func (.func 91) #[] #[]) w (Ret fun v w' => v = .bool false ∧ w' = w) := by
  apply slices_ContainsFunc_complex128_complex128.ok
  unfold slices_ContainsFunc_complex128_complex128.main
  have h : slices_IndexFunc_complex128_complex128_f91.C none 0 0 w (Ret fun v w' => v = .int .i64 (-1) ∧ w' = w) := by
    apply slices_IndexFunc_complex128_complex128_f91.ok
    unfold slices_IndexFunc_complex128_complex128_f91.main slices_IndexFunc_complex128_complex128_f91.l1
    refine ⟨fun t0p t0n t0c t7 t8 w' => t7 = 0 ∧ t8 = 0 ∧ w' = w, fun _ _ _ _ _ _ => 0, ⟨rfl, rfl, rfl⟩, ?_⟩
    rintro t0p t0n t0c _ _ _ ⟨rfl, rfl, rfl⟩
    unfold slices_IndexFunc_complex128_complex128_f91.b1
    rw [condd_neg (by omega)]
    exact Ret.mk ⟨rfl, rfl⟩
  refine callP.use h ?_
  rintro _ _ ⟨rfl, rfl⟩
  try dsimp only [dI_i64, dI_u8, dI_u16, dI_u32, dB_bool, dS_slice, dP_ptr, dT_tup, dA_agg, dStr_str, dF_f, dC_c, dM_m, optP_some, ga0, ga1, ga2, ga3, ga4, cond_true, cond_false, chk_true, Bool.not_true, Bool.not_false, Option.isNone_none, Option.isNone_some, List.toList_toArray]
  exact Ret.mk ⟨rfl, rfl⟩
/-- a number below eight -/
theorem below8 {k : Nat} (h : k < 8) : k = 0 ∨ k = 1 ∨ k = 2 ∨ k = 3 ∨ k = 4 ∨ k = 5 ∨ k = 6 ∨ k = 7 := by omega
theorem zst_pair {k : Nat} (h : k < 8) : ((zst.take 16).toArray.extract (k * 2) (k * 2 + 2)) = #[.int .i64 0, .int .i64 0] := by
  rcases below8 h with rfl | rfl | rfl | rfl | rfl | rfl | rfl | rfl <;> rfl
theorem zst_slice {k : Nat} (h : k < 8) : zst[16 + k]? = some (.slice none 0 0) := by
  rcases below8 h with rfl | rfl | rfl | rfl | rfl | rfl | rfl | rfl <;> rfl
theorem addr16 (b k : Nat) : (⟨b, 16, none⟩ : Addr).add (k * 1) = ⟨b, 16 + k, none⟩ := by rw [Addr.add_lit, Nat.mul_one]
theorem wrap_next {k : Nat} (h : k < 8) : IntKind.i64.wrap ((k : Int) + 1) = ((k + 1 : Nat) : Int) := by rw [w64 (by omega) (by omega)]; rfl
theorem Sound_zero (w : World) : delta_Sound.C zst.toArray w (Ret fun v w' => v = .bool true ∧ Ex w w') := by
  apply delta_Sound.ok
  unfold delta_Sound.main
  rintro b1 w1 rfl rfl
  have o1 := Owns.new (w := w) zst ty_api_State
  have x1 := Ex.alloc w (.cells zst.toArray ty_api_State)
  generalize w.alloc (.cells zst.toArray ty_api_State) = w1 at o1 x1 ⊢
  refine ⟨(zst.take 16).toArray, rfl, (CellsO.take o1.cells 16), ?_⟩
  unfold delta_Sound.l1
  refine ⟨fun t1 t7 t8 w' => t1 = w.heap.size ∧ t7 = (zst.take 16).toArray ∧ 0 ≤ t8 ∧ t8 ≤ 8 ∧ Ex w1 w', fun t1 t7 t8 w' => (8 - t8).toNat, ⟨rfl, rfl, by omega, by omega, Ex.refl _⟩, ?_⟩
  rintro _ _ t8 w' ⟨rfl, rfl, h0, h8, hx⟩
  unfold delta_Sound.b1
  refine cond_of (fun h => ?_) (fun _ => Ret.mk ⟨rfl, x1.trans hx⟩)
  have h := of_decide_eq_true h
  obtain ⟨k, rfl⟩ := Int.eq_ofNat_of_zero_le h0
  have hk : k < 8 := by omega
  refine chk_of (decide_eq_true h0) (chk_of (decide_eq_true h) ?_)
  rw [Int.toNat_natCast, zst_pair hk]
  rintro b2 w2 rfl rfl
  have o2 := Owns.new (w := w') [.int .i64 0, .int .i64 0] ty_api_Entry
  have x2 := Ex.alloc w' (.cells [Value.int .i64 0, .int .i64 0].toArray ty_api_Entry)
  generalize w'.alloc (.cells #[.int .i64 0, .int .i64 0] ty_api_Entry) = w2 at o2 x2 ⊢
  refine chk_of (by rfl) ?_
  refine o2.put (cs := [.int .i64 0, .int .i64 0]) (by rfl) two_one fun w3 k3 o3 => ?_
  have x3 : Ex w' w3 := x2.then k3 fun i hi => hi ▸ Nat.le_refl _
  refine chk_of (decide_eq_true h0) (chk_of (decide_eq_true h) ?_)
  rw [addr16]
  refine ⟨none, 0, 0, (o1.ex (hx.trans x3)).at (zst_slice hk), 0, o3.at (by rfl), ?_⟩
  rw [cond_neg (by rfl)]
  refine ⟨0, o3.at (by rfl), ?_⟩
  rw [cond_pos (by rfl)]
  refine ⟨0, o3.at (by rfl), ?_⟩
  rw [cond_neg (by rfl)]
  refine ⟨0, o3.at (by rfl), ?_⟩
  refine callP.use (in_spec 0 0 3 _) ?_
  rintro _ _ ⟨rfl, rfl⟩
  try dsimp only [dI_i64, dI_u8, dI_u16, dI_u32, dB_bool, dS_slice, dP_ptr, dT_tup, dA_agg, dStr_str, dF_f, dC_c, dM_m, optP_some, ga0, ga1, ga2, ga3, ga4, cond_true, cond_false, chk_true, Bool.not_true, Bool.not_false, Option.isNone_none, Option.isNone_some, List.toList_toArray]
  rw [cond_neg (by rfl)]
  refine ⟨0, o3.at (by rfl), ?_⟩
  rw [cond_neg (by rfl)]
  refine callP.use (has75 _) ?_
  rintro _ _ ⟨rfl, rfl⟩
  try dsimp only [dI_i64, dI_u8, dI_u16, dI_u32, dB_bool, dS_slice, dP_ptr, dT_tup, dA_agg, dStr_str, dF_f, dC_c, dM_m, optP_some, ga0, ga1, ga2, ga3, ga4, cond_true, cond_false, chk_true, Bool.not_true, Bool.not_false, Option.isNone_none, Option.isNone_some, List.toList_toArray]
  rw [wrap_next hk]
  exact ⟨⟨rfl, rfl, by omega, by omega, hx.trans x3⟩, by ((try dsimp only); omega)⟩
theorem Within_zero (w : World) : owner_Within.C zst.toArray 6 2 w (Ret fun v w' => v = .int .i64 0 ∧ Ex w w') := by
  apply owner_Within.ok
  unfold owner_Within.main
  rintro b1 w1 rfl rfl b2 w2 rfl rfl
  have o1 := Owns.new (w := w) zst ty_api_State
  have x1 := Ex.alloc w (.cells zst.toArray ty_api_State)
  generalize w.alloc (.cells zst.toArray ty_api_State) = w1 at o1 x1 ⊢
  have o2 := Owns.new (w := w1) [.int .i64 6, .int .i64 2] ty_api_Plat
  have x2 := Ex.alloc w1 (.cells [Value.int .i64 6, .int .i64 2].toArray ty_api_Plat)
  generalize w1.alloc (.cells #[.int .i64 6, .int .i64 2] ty_api_Plat) = w2 at o2 x2 ⊢
  have o1 := o1.ex x2
  refine ⟨#[.int .i64 6, .int .i64 2], rfl, o2.cells, ?_⟩
  refine callP.use (platCheck_spec 6 2 _ (by omega) (by omega)) ?_
  rintro _ w3 ⟨rfl, x3⟩
  try dsimp only [dI_i64, dI_u8, dI_u16, dI_u32, dB_bool, dS_slice, dP_ptr, dT_tup, dA_agg, dStr_str, dF_f, dC_c, dM_m, optP_some, ga0, ga1, ga2, ga3, ga4, cond_true, cond_false, chk_true, Bool.not_true, Bool.not_false, Option.isNone_none, Option.isNone_some, List.toList_toArray]
  rw [cond_neg (by rfl)]
  refine ⟨zst.toArray, rfl, (o1.ex x3).cells, ?_⟩
  refine callP.use (Sound_zero _) ?_
  rintro _ w5 ⟨rfl, x5⟩
  try dsimp only [dI_i64, dI_u8, dI_u16, dI_u32, dB_bool, dS_slice, dP_ptr, dT_tup, dA_agg, dStr_str, dF_f, dC_c, dM_m, optP_some, ga0, ga1, ga2, ga3, ga4, cond_true, cond_false, chk_true, Bool.not_true, Bool.not_false, Option.isNone_none, Option.isNone_some, List.toList_toArray]
  rw [cond_neg (by rfl)]
  have hx5 := x1.trans (x2.trans (x3.trans x5))
  have hd : CellsAt w5 (⟨w.heap.size, 16, none⟩ : Addr) (zst.drop 16) := by
    have := CellsAt.drop (o1.ex (x3.trans x5)).cells 16
    rwa [Addr.add_lit, Nat.zero_add] at this
  refine ⟨(zst.drop 16).toArray, rfl, hd, ?_⟩
  unfold owner_Within.l1
  refine ⟨fun t3 t17 t18 w' => t17 = (zst.drop 16).toArray ∧ 0 ≤ t18 ∧ t18 ≤ 8 ∧ Ex w5 w', fun t3 t17 t18 w' => (8 - t18).toNat, ⟨rfl, by omega, by omega, Ex.refl _⟩, ?_⟩
  rintro t3 _ t18 w' ⟨rfl, h0, h8, hx⟩
  unfold owner_Within.b1
  refine cond_of (fun h => ?_) (fun _ => Ret.mk ⟨rfl, hx5.trans hx⟩)
  have h := of_decide_eq_true h
  obtain ⟨k, rfl⟩ := Int.eq_ofNat_of_zero_le h0
  have hk : k < 8 := by omega
  refine chk_of (decide_eq_true h0) (chk_of (decide_eq_true h) ?_)
  rw [Int.toNat_natCast, Nat.mul_one]
  have e : (zst.drop 16).toArray[k]? = some (.slice none 0 0) := by
    rcases below8 hk with rfl | rfl | rfl | rfl | rfl | rfl | rfl | rfl <;> rfl
  rw [e]
  try dsimp only [dI_i64, dI_u8, dI_u16, dI_u32, dB_bool, dS_slice, dP_ptr, dT_tup, dA_agg, dStr_str, dF_f, dC_c, dM_m, optP_some, ga0, ga1, ga2, ga3, ga4, cond_true, cond_false, chk_true, Bool.not_true, Bool.not_false, Option.isNone_none, Option.isNone_some, List.toList_toArray]
  refine callP.use (has63 t3 _) ?_
  rintro _ _ ⟨rfl, rfl⟩
  try dsimp only [dI_i64, dI_u8, dI_u16, dI_u32, dB_bool, dS_slice, dP_ptr, dT_tup, dA_agg, dStr_str, dF_f, dC_c, dM_m, optP_some, ga0, ga1, ga2, ga3, ga4, cond_true, cond_false, chk_true, Bool.not_true, Bool.not_false, Option.isNone_none, Option.isNone_some, List.toList_toArray]
  rw [wrap_next hk]
  exact ⟨⟨rfl, by omega, by omega, hx⟩, by ((try dsimp only); omega)⟩
theorem all_zero (w : World) : owner_all.C zst.toArray w (Ret fun v w' => ∃ b, v = .map (some b) ∧ w'.heap[b]? = some (.map #[] 0) ∧ Ex w w') := by
  apply owner_all.ok
  unfold owner_all.main
  rintro b1 w1 rfl rfl b2 w2 rfl rfl
  have o1 := Owns.new (w := w) zst ty_api_State
  have x1 := Ex.alloc w (.cells zst.toArray ty_api_State)
  generalize w.alloc (.cells zst.toArray ty_api_State) = w1 at o1 x1 ⊢
  have x2 := Ex.alloc w1 (.map #[] 0)
  have hm := heap_alloc_at w1 (.map #[] 0)
  generalize w1.heap.size = b2 at hm ⊢
  generalize w1.alloc (.map #[] 0) = w2 at x2 hm ⊢
  have o1 := o1.ex x2
  have hd : CellsAt w2 (⟨w.heap.size, 16, none⟩ : Addr) (zst.drop 16) := by
    have := CellsAt.drop o1.cells 16
    rwa [Addr.add_lit, Nat.zero_add] at this
  refine ⟨(zst.drop 16).toArray, rfl, hd, ?_⟩
  unfold owner_all.l1
  refine ⟨fun t3 t10 t11 w' => t3 = some b2 ∧ t10 = (zst.drop 16).toArray ∧ 0 ≤ t11 ∧ t11 ≤ 8 ∧ w2 = w', fun t3 t10 t11 w' => (8 - t11).toNat, ⟨rfl, rfl, by omega, by omega, rfl⟩, ?_⟩
  rintro _ _ t18 _ ⟨rfl, rfl, h0, h8, rfl⟩
  unfold owner_all.b1
  refine cond_of (fun h => ?_) (fun _ => Ret.mk ⟨b2, rfl, hm, x1.trans x2⟩)
  have h := of_decide_eq_true h
  obtain ⟨k, rfl⟩ := Int.eq_ofNat_of_zero_le h0
  have hk : k < 8 := by omega
  refine chk_of (decide_eq_true h0) (chk_of (decide_eq_true h) ?_)
  rw [Int.toNat_natCast, Nat.mul_one]
  have e : (zst.drop 16).toArray[k]? = some (.slice none 0 0) := by
    rcases below8 hk with rfl | rfl | rfl | rfl | rfl | rfl | rfl | rfl <;> rfl
  rw [e]
  try dsimp only [dI_i64, dI_u8, dI_u16, dI_u32, dB_bool, dS_slice, dP_ptr, dT_tup, dA_agg, dStr_str, dF_f, dC_c, dM_m, optP_some, ga0, ga1, ga2, ga3, ga4, cond_true, cond_false, chk_true, Bool.not_true, Bool.not_false, Option.isNone_none, Option.isNone_some, List.toList_toArray]
  unfold owner_all.l2
  refine ⟨fun t3 t4 t10 t11 t15p t15n t15c t16 t17 w' => t3 = some b2 ∧ t10 = (zst.drop 16).toArray ∧ (k : Int) = t11 ∧ t16 = 0 ∧ t17 = 0 ∧ w2 = w', fun _ _ _ _ _ _ _ _ _ _ => 0, ⟨rfl, rfl, rfl, rfl, rfl, rfl⟩, ?_⟩
  rintro _ t4 _ _ t15p t15n t15c _ _ _ ⟨rfl, rfl, rfl, rfl, rfl, rfl⟩
  unfold owner_all.b2
  rw [condd_neg (by omega), wrap_next hk]
  exact ⟨⟨rfl, rfl, by omega, by omega, rfl⟩, by ((try dsimp only); omega)⟩
theorem Fit_zero (w : World) : owner_Fit.C zst.toArray 6 2 w (Ret fun v w' => v = .int .i64 0 ∧ Ex w w') := by
  apply owner_Fit.ok
  unfold owner_Fit.main
  rintro b1 w1 rfl rfl b2 w2 rfl rfl
  have o1 := Owns.new (w := w) zst ty_api_State
  have x1 := Ex.alloc w (.cells zst.toArray ty_api_State)
  generalize w.alloc (.cells zst.toArray ty_api_State) = w1 at o1 x1 ⊢
  have o2 := Owns.new (w := w1) [.int .i64 6, .int .i64 2] ty_api_Plat
  have x2 := Ex.alloc w1 (.cells [Value.int .i64 6, .int .i64 2].toArray ty_api_Plat)
  generalize w1.alloc (.cells #[.int .i64 6, .int .i64 2] ty_api_Plat) = w2 at o2 x2 ⊢
  have o1 := o1.ex x2
  refine ⟨zst.toArray, rfl, o1.cells, #[.int .i64 6, .int .i64 2], rfl, o2.cells, ?_⟩
  refine callP.use (Within_zero _) ?_
  rintro _ w3 ⟨rfl, x3⟩
  try dsimp only [dI_i64, dI_u8, dI_u16, dI_u32, dB_bool, dS_slice, dP_ptr, dT_tup, dA_agg, dStr_str, dF_f, dC_c, dM_m, optP_some, ga0, ga1, ga2, ga3, ga4, cond_true, cond_false, chk_true, Bool.not_true, Bool.not_false, Option.isNone_none, Option.isNone_some, List.toList_toArray]
  rw [cond_neg (by rfl)]
  refine ⟨#[.int .i64 6, .int .i64 2], rfl, (o2.ex x3).cells, ?_⟩
  refine callP.use (Capacity_spec _) ?_
  rintro _ w5 ⟨rfl, x5⟩
  try dsimp only [dI_i64, dI_u8, dI_u16, dI_u32, dB_bool, dS_slice, dP_ptr, dT_tup, dA_agg, dStr_str, dF_f, dC_c, dM_m, optP_some, ga0, ga1, ga2, ga3, ga4, cond_true, cond_false, chk_true, Bool.not_true, Bool.not_false, Option.isNone_none, Option.isNone_some, List.toList_toArray]
  refine ⟨zst.toArray, rfl, (o1.ex (x3.trans x5)).cells, ?_⟩
  refine callP.use (all_zero _) ?_
  rintro _ w7 ⟨b, rfl, hb, x7⟩
  try dsimp only [dI_i64, dI_u8, dI_u16, dI_u32, dB_bool, dS_slice, dP_ptr, dT_tup, dA_agg, dStr_str, dF_f, dC_c, dM_m, optP_some, ga0, ga1, ga2, ga3, ga4, cond_true, cond_false, chk_true, Bool.not_true, Bool.not_false, Option.isNone_none, Option.isNone_some, List.toList_toArray]
  refine ⟨_, _, hb, ?_⟩
  dsimp only
  rw [condd_neg (by decide)]
  exact Ret.mk ⟨rfl, x1.trans (x2.trans (x3.trans (x5.trans x7)))⟩

/-! ### put, sealed, payload -/
theorem put_spec {w : World} {B : Nat} {p : Option Addr} {n c : Nat} {xs : List Int} (o : Owns w B ty_uint8 1 p n c (v8 xs)) (hB : B ≤ w.heap.size) (s : Int) {q : Option Addr} {m d : Nat} {l : List Int} (hc : CellsO w q (Cel.v64 l)) (hl : l.length = m) (hm : m ≤ 1000) (hn : n ≤ 1000000) :
    leaf_put.C p n c s q m d w (Ret fun v w' => ∃ p' c', v = .slice p' (n + (Cel.rowB s l).length) c' ∧ Owns w' B ty_uint8 1 p' (n + (Cel.rowB s l).length) c' (v8 (xs ++ Cel.rowB s l)) ∧ Kp w w' (fun i => ∃ x, p = some x ∧ x.block = i)) := by
  apply leaf_put.ok
  unfold leaf_put.main
  refine callP.use (Cel.Row_spec q m d l s w hc hl (by omega)) ?_
  rintro _ w1 ⟨p1, n1, c1, rfl, hn1, o1, x1⟩
  try dsimp only [dI_i64, dI_u8, dI_u16, dI_u32, dB_bool, dS_slice, dP_ptr, dT_tup, dA_agg, dStr_str, dF_f, dC_c, dM_m, optP_some, ga0, ga1, ga2, ga3, ga4, cond_true, cond_false, chk_true, Bool.not_true, Bool.not_false, Option.isNone_none, Option.isNone_some, List.toList_toArray]
  have hlen : (Cel.rowB s l).length = n1 := by have := own_len (xs := Cel.rowB s l) o1; exact this
  refine appP_own (B := B) (o.ex x1) (Nat.le_trans hB x1.size) (v8 (Cel.rowB s l)) o1.cells (by rw [v8_len, hlen, Nat.mul_one]) (v8_one _) rfl (by omega) (by omega) ?_
  intro p2 c2 w2 o2 k2
  rw [← hlen] at o2 ⊢
  refine Ret.mk ⟨p2, c2, rfl, by rw [← v8_app]; exact o2, Kp.trans (x1.kp _) k2 (fun i _ h => h) (fun i _ h => h)⟩
theorem sealed_spec (p : Option Addr) (n c : Nat) (xs : List Int) (w : World) (hc : CellsO w p (v8 xs)) (hn : xs.length = n) (hb : Bytes xs) (h60 : n ≤ 60) :
    leaf_sealed.C p n c w (Ret fun v w' => ∃ p' c', v = .slice p' 64 c' ∧ Owns w' w.heap.size ty_uint8 1 p' 64 c' (v8 (sealed xs)) ∧ Ex w w') := by
  apply leaf_sealed.ok
  unfold leaf_sealed.main
  refine callP.use (Close_spec p n c xs w hc hn hb) ?_
  rintro _ w1 ⟨p1, n1, c1, rfl, hn1, o1, x1⟩
  try dsimp only [dI_i64, dI_u8, dI_u16, dI_u32, dB_bool, dS_slice, dP_ptr, dT_tup, dA_agg, dStr_str, dF_f, dC_c, dM_m, optP_some, ga0, ga1, ga2, ga3, ga4, cond_true, cond_false, chk_true, Bool.not_true, Bool.not_false, Option.isNone_none, Option.isNone_some, List.toList_toArray]
  have hcl : cloB xs = sealed xs := cloB_le (by omega)
  rw [hcl] at o1
  have : n1 = 64 := by have := own_len o1; rw [sealed_length (by omega)] at this; exact this.symm
  subst this
  exact Ret.mk ⟨p1, c1, rfl, o1, x1⟩
theorem rowB1 (a b : Int) (ha : 0 ≤ a ∧ a < 256) (hb : 0 ≤ b ∧ b < 256) : Cel.rowB 1 [a, b] = [a, b] := by
  have := (Cel.row_in (k := 1) (by omega) (by omega) [a, b]).2
  have e : ((1 : Nat) : Int) = 1 := rfl
  rw [e] at this
  rw [this, if_pos (by simp [Cel.okNum]; omega)]
  simp [Cel.be]
  omega
theorem payload_zero (w : World) : leaf_payload.C zst.toArray 6 2 w (Ret fun v w' => ∃ p c, v = .slice p 16 c ∧ Owns w' w.heap.size ty_uint8 1 p 16 c (v8 (List.replicate 16 0)) ∧ Ex w w') := by
  apply leaf_payload.ok
  unfold leaf_payload.main
  rintro b1 w1 rfl rfl b2 w2 rfl rfl
  have o1 := Owns.new (w := w) zst ty_api_State
  have x1 := Ex.alloc w (.cells zst.toArray ty_api_State)
  generalize w.alloc (.cells zst.toArray ty_api_State) = w1 at o1 x1 ⊢
  have x2 := Ex.alloc w1 (.cells [Value.int .i64 6, .int .i64 2].toArray ty_api_Plat)
  generalize w1.alloc (.cells #[.int .i64 6, .int .i64 2] ty_api_Plat) = w2 at x2 ⊢
  have o1 := o1.ex x2
  have hx2 := x1.trans x2
  refine ⟨(zst.take 16).toArray, rfl, (CellsO.take o1.cells 16), ?_⟩
  unfold leaf_payload.l1
  refine ⟨fun t2 t3 t5p t5n t5c t12 t13 w' => t2 = w.heap.size ∧ t12 = (zst.take 16).toArray ∧ 0 ≤ t13 ∧ t13 ≤ 8 ∧ t5n = 2 * t13.toNat ∧ Owns w' w2.heap.size ty_uint8 1 t5p t5n t5c (v8 (List.replicate (2 * t13.toNat) 0)) ∧ Ex w2 w', fun t2 t3 t5p t5n t5c t12 t13 w' => (8 - t13).toNat, ⟨rfl, rfl, by omega, by omega, rfl, Owns.nil _ _ _ _, Ex.refl _⟩, ?_⟩
  rintro _ t3 t5p t5n t5c _ t13 w' ⟨rfl, rfl, h0, h8, hn, own, hx⟩
  unfold leaf_payload.b1
  obtain ⟨k, rfl⟩ := Int.eq_ofNat_of_zero_le h0
  rw [Int.toNat_natCast] at hn own
  subst hn
  refine cond_of (fun h => ?_) (fun h => ?_)
  · have h := of_decide_eq_true h
    have hk : k < 8 := by omega
    refine chk_of (decide_eq_true h0) (chk_of (decide_eq_true h) ?_)
    rw [Int.toNat_natCast, zst_pair hk]
    rintro b3 w3 rfl rfl
    have o3 := Owns.new (w := w') [.int .i64 0, .int .i64 0] ty_api_Entry
    have x3 := Ex.alloc w' (.cells [Value.int .i64 0, .int .i64 0].toArray ty_api_Entry)
    generalize w'.alloc (.cells #[.int .i64 0, .int .i64 0] ty_api_Entry) = w3 at o3 x3 ⊢
    refine chk_of (by rfl) ?_
    refine o3.put (cs := [.int .i64 0, .int .i64 0]) (by rfl) two_one fun w4 k4 o4 => ?_
    have x4 : Ex w' w4 := x3.then k4 fun i hi => hi ▸ Nat.le_refl _
    refine ⟨0, o4.at (by rfl), 0, o4.at (by rfl), ?_⟩
    rintro b4 w5 rfl rfl
    have o5 := Owns.alloc (w := w4) (Cel.v64 [0, 0]) ty_int 1 2 rfl
    have x5 := Ex.alloc w4 (.cells (Cel.v64 [0, 0]).toArray ty_int)
    have e5 : w4.alloc (.cells #[.int .i64 0, .int .i64 0] ty_int) = w4.alloc (.cells (Cel.v64 [0, 0]).toArray ty_int) := rfl
    rw [e5]
    generalize w4.alloc (.cells (Cel.v64 [0, 0]).toArray ty_int) = w5 at o5 x5 ⊢
    have x45 := x4.trans x5
    refine callP.use (put_spec (own.ex x45) (hx.trans x45).size 1 o5.cells rfl (by omega) (by omega)) ?_
    rintro _ w6 ⟨p6, c6, rfl, o6, k6⟩
    try dsimp only [dI_i64, dI_u8, dI_u16, dI_u32, dB_bool, dS_slice, dP_ptr, dT_tup, dA_agg, dStr_str, dF_f, dC_c, dM_m, optP_some, ga0, ga1, ga2, ga3, ga4, cond_true, cond_false, chk_true, Bool.not_true, Bool.not_false, Option.isNone_none, Option.isNone_some, List.toList_toArray]
    rw [rowB1 0 0 (by omega) (by omega)] at o6 ⊢
    have x6 : Ex w2 w6 := (hx.trans x45).then k6 fun i ⟨x, e, hi⟩ => by
      have := (own.ge e).1
      omega
    refine chk_of (decide_eq_true h0) (chk_of (decide_eq_true h) ?_)
    rw [addr16]
    refine ⟨none, 0, 0, (o1.ex x6).at (zst_slice hk), ?_⟩
    have er : List.replicate (2 * k) (0 : Int) ++ [0, 0] = List.replicate (2 * (k + 1)) 0 := by
      have e2 : [(0 : Int), 0] = List.replicate 2 0 := rfl
      rw [e2, List.replicate_append_replicate]
      rfl
    rw [er] at o6
    unfold leaf_payload.l2
    refine ⟨fun t2 t3' t5p t5n t5c t12 t13 t27p t27n t27c t28 t29 w' => t2 = w.heap.size ∧ t12 = (zst.take 16).toArray ∧ (k : Int) = t13 ∧ t5p = p6 ∧ t5n = 2 * k + 2 ∧ t5c = c6 ∧ t28 = 0 ∧ t29 = 0 ∧ w' = w6, fun _ _ _ _ _ _ _ _ _ _ _ _ _ => 0, ⟨rfl, rfl, rfl, rfl, rfl, rfl, rfl, rfl, rfl⟩, ?_⟩
    rintro _ t3' _ _ _ _ _ t27p t27n t27c _ _ _ ⟨rfl, rfl, rfl, rfl, rfl, rfl, rfl, rfl, rfl⟩
    unfold leaf_payload.b2
    rw [condd_neg (by omega), wrap_next hk]
    exact ⟨⟨rfl, rfl, by omega, by omega, rfl, o6, x6⟩, by ((try dsimp only); omega)⟩
  · have h := of_decide_eq_false h
    obtain rfl : k = 8 := by omega
    exact Ret.mk ⟨t5p, t5c, rfl, own.lower hx2.size, hx2.trans hx⟩
end Go.Proofs.Ythgmebhkbbehmaa.G
namespace Go.Proofs.Ythgmebhkbbehmaa.G
open Go.Dec Go.RowKit
set_option linter.unusedVariables false
set_option linter.unusedSimpArgs false

def slat : List Int := [83, 76, 65, 84]
def hdr1 : List Int := slat ++ [0, 0, 0, 5]
def hdr2 : List Int := hdr1 ++ [6, 2, 1]
def hdr3 : List Int := hdr2 ++ [0, 16]
theorem row5 : Cel.rowB 4 [5] = [0, 0, 0, 5] := by decide
theorem row621 : Cel.rowB 1 [6, 2, 1] = [6, 2, 1] := by decide
theorem row16 : Cel.rowB 2 [16] = [0, 16] := by decide
def Bx (w : World) (b : Nat) (l : List Int) : Prop := Owns w 0 ty_int 1 (some ⟨b, 0, none⟩) l.length l.length (Cel.v64 l)
def Sl (W w : World) (p : Option Addr) (n c : Nat) (xs : List Int) : Prop := Owns w W.heap.size ty_uint8 1 p n c (v8 xs)
/-- "SLAT" as it was laid -/
def Raw (W w : World) (b : Nat) : Prop := W.heap.size ≤ b ∧ w.heap[b]? = some (.cells (v8 slat).toArray ty_uint8 (0, 0))
theorem Bx.ex {w w' : World} {b : Nat} {l : List Int} (h : Bx w b l) (x : Ex w w') : Bx w' b l := Owns.ex h x
theorem Sl.ex {W w w' : World} {p : Option Addr} {n c : Nat} {xs : List Int} (h : Sl W w p n c xs) (x : Ex w w') : Sl W w' p n c xs := Owns.ex h x
theorem Raw.ex {W w w' : World} {b : Nat} (h : Raw W w b) (x : Ex w w') : Raw W w' b := ⟨h.1, by rw [x.block b (Array.getElem?_eq_some_iff.1 h.2).1 id]; exact h.2⟩
theorem newBx {W w : World} (hx : Ex W w) (l : List Int) {N : Nat → World → Prop} (K : ∀ b w', Ex w w' → Bx w' b l → N b w') : newP w (Cel.v64 l).toArray ty_int N := by
  rintro b w' rfl rfl
  have o := Owns.alloc (w := w) (Cel.v64 l) ty_int 1 l.length (by simp [Cel.v64])
  exact K _ _ (Ex.alloc w _) (o.lower (Nat.zero_le _))
theorem newRaw {W w : World} (hx : Ex W w) {N : Nat → World → Prop} (K : ∀ b w', Ex w w' → Raw W w' b → N b w') : newP w (v8 slat).toArray ty_uint8 N := by
  rintro b w' rfl rfl
  exact K _ _ (Ex.alloc w _) ⟨hx.size, heap_alloc_at w _⟩
theorem mark {W w : World} {b : Nat} (hx : Ex W w) (h : Raw W w b) {N : World → Prop} (K : ∀ w', Ex W w' → (∀ b l, Bx w b l → Bx w' b l) → Sl W w' (some ⟨b, 0, none⟩) 4 4 slat → N w') : markP w ⟨b, 0, none⟩ N := by
  refine ⟨_, _, _, h.2, fun w' hw => ?_⟩
  subst hw
  have k := Kp.freeze w ⟨b, (v8 slat).toArray.size, none⟩ 1
  have t : Typed w ty_uint8 b := ⟨_, _, h.2⟩
  refine K _ (hx.then k fun i hi => ?_) (fun b' l hb => ?_) ?_
  · dsimp only at hi
    rw [hi]; exact h.1
  · exact Owns.away hb k ty_uint8 (fun i hi => by dsimp only at hi; rw [hi]; exact t) (by decide)
  · refine ⟨rfl, Nat.le_refl _, .inr ⟨b, (v8 slat).toArray, (4, 5), rfl, h.1, ?_, .inr (by decide), by decide, rfl⟩⟩
    unfold World.freeze
    simp [h.2, Array.getElem?_modify]
    rfl
structure Ctx (W : World) (b2 b3 b4 : Nat) (p20 : Option Addr) (c20 : Nat) : Prop where
  k2 : Owns W 0 ty_api_Plat 2 (some ⟨b2, 0, none⟩) 1 1 [.int .i64 6, .int .i64 2]
  k3 : Owns W 0 ty_int 1 (some ⟨b3, 0, none⟩) 1 1 [.int .i64 5]
  k4 : Owns W 0 ty_sl_sl_uint8 1 (some ⟨b4, 0, none⟩) 1 1 [.slice p20 1 c20]
def Fin (W : World) (D b4 : Nat) (p1 : Option Addr) (c1 : Nat) (R : Ending → World → Prop) : Prop :=
  ∀ (p23 : Option Addr) (c23 : Nat) (w58 : World), Ex W w58 → Sl W w58 p23 13 c23 hdr3 → ∃ (p24 : Option Addr) (n18 c24 : Nat), w58.drew.cell? (⟨b4, 0, none⟩ : Addr) = some (.slice p24 n18 c24) ∧ leaf_Encode.o17 D p1 16 c1 w58 b4 p24 n18 c24 p23 13 c23 R
theorem putX {W w : World} {N : Value → World → Prop} {X : List PanicEntry → World → Prop} (hx : Ex W w) {p : Option Addr} {n c : Nat} {xs : List Int} (h1 : Sl W w p n c xs) {b : Nat} {l : List Int} (h2 : Bx w b l) {s : Int} {r : List Int} (hr : Cel.rowB s l = r) (hn : n ≤ 1000) (hl : l.length ≤ 10)
    (K : ∀ p c w', Ex W w' → (∀ b l, Bx w b l → Bx w' b l) → Sl W w' p (n + r.length) c (xs ++ r) → N (.slice p (n + r.length) c) w') : callP Try.prog 52 #[.slice p n c, .int .i64 s, .slice (some ⟨b, 0, none⟩) l.length l.length] w N X := by
  refine callP.use (put_spec h1 hx.size s (Owns.cells h2) rfl (by omega) (by omega)) ?_
  rintro _ w' ⟨p', c', rfl, o, k⟩
  rw [hr] at o ⊢
  refine K p' c' w' (hx.then k fun i ⟨x, e, hi⟩ => by have := (Owns.ge h1 e).1; omega) (fun b' l' hb => ?_) o
  exact Owns.away hb k ty_uint8 (fun i ⟨x, e, hi⟩ => hi ▸ (Owns.typed h1 e).1) (by decide)
theorem putA {W w : World} {N : Value → World → Prop} {X : List PanicEntry → World → Prop} (hx : Ex W w) {b13 b14 : Nat} (h13 : Sl W w (some ⟨b13, 0, none⟩) 4 4 slat) (h14 : Bx w b14 [5])
    (K : ∀ p c w', Ex W w' → (∀ b l, Bx w b l → Bx w' b l) → Sl W w' p 8 c hdr1 → N (.slice p 8 c) w') : callP Try.prog 52 #[.slice (some ⟨b13, 0, none⟩) 4 4, .int .i64 4, .slice (some ⟨b14, 0, none⟩) 1 1] w N X :=
  putX hx h13 h14 row5 (by omega) (by decide) K
theorem putB {W w : World} {N : Value → World → Prop} {X : List PanicEntry → World → Prop} (hx : Ex W w) {p21 : Option Addr} {c21 b15 : Nat} (s1 : Sl W w p21 8 c21 hdr1) (h15 : Bx w b15 [6, 2, 1])
    (K : ∀ p c w', Ex W w' → (∀ b l, Bx w b l → Bx w' b l) → Sl W w' p 11 c hdr2 → N (.slice p 11 c) w') : callP Try.prog 52 #[.slice p21 8 c21, .int .i64 1, .slice (some ⟨b15, 0, none⟩) 3 3] w N X :=
  putX hx s1 h15 row621 (by omega) (by decide) K
theorem putC {W w : World} {N : Value → World → Prop} {X : List PanicEntry → World → Prop} (hx : Ex W w) {p22 : Option Addr} {c22 b16 : Nat} (s2 : Sl W w p22 11 c22 hdr2) (h16 : Bx w b16 [16])
    (K : ∀ p c w', Ex W w' → (∀ b l, Bx w b l → Bx w' b l) → Sl W w' p 13 c hdr3 → N (.slice p 13 c) w') : callP Try.prog 52 #[.slice p22 11 c22, .int .i64 2, .slice (some ⟨b16, 0, none⟩) 1 1] w N X :=
  putX hx s2 h16 row16 (by omega) (by decide) K
end Go.Proofs.Ythgmebhkbbehmaa.G
