/-
  Deltas: whole bytes as floats; axis.within, axis.Whole, delta.in, delta.rest, delta.Check.
-/
import Derived.Test.YtnbegeghcjldfaaCel
import Derived.Test.YtnbegeghcjldfaaBas
namespace Go.Proofs.Ytnbegeghcjldfaa.G
open Go.Dec Go.RowKit
set_option linter.unusedVariables false
set_option linter.unusedSimpArgs false

/-! ### Bytes as floats -/
def fl (k : Int) : Nat := FloatKind.f64.nearest k
def Byte (x : Int) : Prop := 0 ≤ x ∧ x < 256
theorem fl_tab : ∀ k : Fin 256, fCmp .geq (fl (k.val : Int)) 0 = true ∧ fCmp .lss (fl (k.val : Int)) (FloatKind.f64.nearest 24) = decide ((k.val : Int) < 24) ∧ fCmp .lss (fl (k.val : Int)) (FloatKind.f64.nearest 16) = decide ((k.val : Int) < 16) ∧
    (FloatKind.f64.decode (fl (k.val : Int))).toInt .zero = some (k.val : Int) ∧ fCmp .eql (fl (k.val : Int)) (fl (k.val : Int)) = true ∧ fCmp .eql (fl (k.val : Int)) 0 = decide ((k.val : Int) = 0) := by decide +kernel
theorem fl_byte {x : Int} (h : Byte x) : fCmp .geq (fl x) 0 = true ∧ fCmp .lss (fl x) (FloatKind.f64.nearest 24) = decide (x < 24) ∧ fCmp .lss (fl x) (FloatKind.f64.nearest 16) = decide (x < 16) ∧
    (FloatKind.f64.decode (fl x)).toInt .zero = some x ∧ fCmp .eql (fl x) (fl x) = true ∧ fCmp .eql (fl x) 0 = decide (x = 0) := by
  obtain ⟨h0, h1⟩ := h
  obtain ⟨n, rfl⟩ := Int.eq_ofNat_of_zero_le h0
  exact fl_tab ⟨n, by omega⟩
theorem fl_zero : fl 0 = 0 := by kernel_rfl

/-! ### Deltas, plain -/
structure Dl where
  k : Int
  v : Int
  o : Int
  b : Int
  x : Int
  y : Int
def Dl.cells (d : Dl) : List Value := [.int .i64 d.k, .int .i64 d.v, .int .i64 d.o, .int .i64 d.b, .complex .f64 (fl d.x) (fl d.y)]
def Dl.wf (d : Dl) : Prop := Byte d.x ∧ Byte d.y
def inn (n a b : Int) : Bool := decide (a ≤ n) && decide (n < b)
def whole (x y : Int) : Bool := decide (x < 24) && decide (y < 16)
def okR (d : Dl) : Bool := inn d.v 0 8 && (if d.k = 1 then inn d.b 1 33 else if d.k = 2 then true else if d.k = 3 then inn d.o 0 8 && decide (d.o ≠ d.v) else if d.k = 4 then whole d.x d.y && inn d.b 0 32 else inn d.b 0 32)
def leftO (d : Dl) : Int := if d.k = 3 then 0 else d.o
def leftB (d : Dl) : Int := if d.k = 2 ∨ d.k = 3 then d.b else 0
def leftX (d : Dl) : Int := if d.k = 4 then 0 else d.x
def leftY (d : Dl) : Int := if d.k = 4 then 0 else d.y
def chk0 (d : Dl) : Int := if inn d.k 1 6 then (if okR d then (if leftO d = 0 ∧ leftB d = 0 ∧ leftX d = 0 ∧ leftY d = 0 then 0 else 2) else 5) else 1
theorem cells_one {a b c d : Int} {x y : Nat} : ∀ z ∈ [Value.int .i64 a, .int .i64 b, .int .i64 c, .int .i64 d, .complex .f64 x y], z.oneCell' = true := by
  intro z hz
  simp only [List.mem_cons, List.not_mem_nil, or_false] at hz
  rcases hz with rfl | rfl | rfl | rfl | rfl <;> rfl
def zcells : List Value := [.int .i64 0, .int .i64 0, .int .i64 0, .int .i64 0, .complex .f64 0 0]

/-! ### axis, in -/
theorem within_spec {x m : Int} (hx : Byte x) (hm : m = 24 ∨ m = 16) (w : World) : axis_within.C (fl x) m w (Ret fun v w' => v = .bool (decide (x < m)) ∧ w' = w) := by
  apply axis_within.ok
  unfold axis_within.main
  obtain ⟨h1, h2, h3, h4, h5, _⟩ := fl_byte hx
  rw [cond_pos h1]
  have hl : fCmp .lss (fl x) (FloatKind.f64.nearest m) = decide (x < m) := by rcases hm with rfl | rfl <;> assumption
  rw [hl]
  obtain ⟨b0, b1⟩ := hx
  refine cond_of (fun h => ?_) (fun h => Ret.mk ⟨by rw [h], rfl⟩)
  rw [h4]
  try dsimp only [dI_i64, dI_u8, dI_u16, dI_u32, dB_bool, dS_slice, dP_ptr, dT_tup, dA_agg, dStr_str, dF_f, dC_c, dM_m, optP_some, ga0, ga1, ga2, ga3, ga4, cond_true, cond_false, chk_true, Bool.not_true, Bool.not_false, Option.isNone_none, Option.isNone_some, List.toList_toArray]
  refine chk_of (decide_eq_true (by show -9223372036854775808 ≤ x; omega)) (chk_of (decide_eq_true (by show x ≤ 9223372036854775807; omega)) (Ret.mk ⟨?_, rfl⟩))
  rw [h]
  exact congrArg Value.bool h5
theorem Whole_spec {x y : Int} (hx : Byte x) (hy : Byte y) (w : World) : axis_Whole.C (fl x) (fl y) w (Ret fun v w' => v = .bool (whole x y) ∧ w' = w) := by
  apply axis_Whole.ok
  unfold axis_Whole.main
  refine callP.use (within_spec hx (.inl rfl) w) ?_
  rintro _ _ ⟨rfl, rfl⟩
  try dsimp only [dI_i64, dI_u8, dI_u16, dI_u32, dB_bool, dS_slice, dP_ptr, dT_tup, dA_agg, dStr_str, dF_f, dC_c, dM_m, optP_some, ga0, ga1, ga2, ga3, ga4, cond_true, cond_false, chk_true, Bool.not_true, Bool.not_false, Option.isNone_none, Option.isNone_some, List.toList_toArray]
  refine cond_of (fun h => ?_) (fun h => Ret.mk ⟨by unfold whole; rw [h]; rfl, rfl⟩)
  refine callP.use (within_spec hy (.inr rfl) _) ?_
  rintro _ _ ⟨rfl, rfl⟩
  try dsimp only [dI_i64, dI_u8, dI_u16, dI_u32, dB_bool, dS_slice, dP_ptr, dT_tup, dA_agg, dStr_str, dF_f, dC_c, dM_m, optP_some, ga0, ga1, ga2, ga3, ga4, cond_true, cond_false, chk_true, Bool.not_true, Bool.not_false, Option.isNone_none, Option.isNone_some, List.toList_toArray]
  exact Ret.mk ⟨by unfold whole; rw [h]; rfl, rfl⟩
theorem in_spec (n a b : Int) (w : World) : delta_in.C n a b w (Ret fun v w' => v = .bool (inn n a b) ∧ w' = w) := by
  apply delta_in.ok
  unfold delta_in.main
  refine cond_of (fun h => ?_) (fun h => ?_)
  · have h : a ≤ n := of_decide_eq_true h
    exact Ret.mk ⟨by simp [inn, h], rfl⟩
  · have h : ¬ a ≤ n := of_decide_eq_false h
    exact Ret.mk ⟨by simp [inn, h], rfl⟩

/-! ### rest -/
theorem move5 {w0 w : World} {B1 B2 b1 b2 : Nat} {cs ds : List Value} {e : TypeId} (o1 : Owns w B1 e 5 (some ⟨b1, 0, none⟩) 1 1 cs) (o2 : Owns w B2 e 5 (some ⟨b2, 0, none⟩) 1 1 ds) (h1 : ∀ y ∈ cs, y.oneCell' = true) (hx : Ex w0 w) (hb : w0.heap.size ≤ b2) {N : Array Value → World → Prop}
    (hN : ∀ w', Ex w0 w' → Owns w' B2 e 5 (some ⟨b2, 0, none⟩) 1 1 cs → N cs.toArray w') :
    ∃ ca : Array Value, ca.size = 5 ∧ CellsAt w (⟨b1, 0, none⟩ : Addr) ca.toList ∧ chk (decide (ca.size = 5)) (Wr w (⟨b2, 0, none⟩ : Addr) ca.toList ∧ ∀ w', w' = w.setCells (⟨b2, 0, none⟩ : Addr).block (⟨b2, 0, none⟩ : Addr).off ca.toList →
      ∃ cb : Array Value, cb.size = 5 ∧ CellsAt w' (⟨b2, 0, none⟩ : Addr) cb.toList ∧ N cb w') := by
  have hl : cs.length = 5 := o1.1
  refine ⟨cs.toArray, by simpa using hl, o1.cells, chk_of (decide_eq_true (by simpa using hl)) ?_⟩
  refine o2.put hl h1 fun w2 k o => ?_
  exact ⟨cs.toArray, by simpa using hl, o.cells, hN w2 (hx.then k fun i hi => hi ▸ hb) o⟩
theorem rest_spec {d : Dl} (hd : d.wf) (hk : inn d.k 1 6 = true) (w : World) :
    delta_rest.C d.k d.v d.o d.b (fl d.x) (fl d.y) w (Ret fun v w' => v = .tuple #[.agg #[.int .i64 d.k, .int .i64 d.v, .int .i64 (leftO d), .int .i64 (leftB d), .complex .f64 (fl (leftX d)) (fl (leftY d))], .bool (okR d)] ∧ Ex w w') := by
  apply delta_rest.ok
  unfold delta_rest.main
  obtain ⟨k, v, o, b, x, y⟩ := d
  obtain ⟨hx, hy⟩ := hd
  dsimp only at hx hy hk ⊢
  rintro b1 w1 rfl rfl b2 w2 rfl rfl
  have o1 := Owns.new (w := w) [.int .i64 k, .int .i64 v, .int .i64 o, .int .i64 b, .complex .f64 (fl x) (fl y)] ty_api_Delta
  have x1 := Ex.alloc w (.cells #[.int .i64 k, .int .i64 v, .int .i64 o, .int .i64 b, .complex .f64 (fl x) (fl y)] ty_api_Delta)
  generalize hb1 : w.heap.size = b1 at o1 ⊢
  generalize w.alloc (.cells #[.int .i64 k, .int .i64 v, .int .i64 o, .int .i64 b, .complex .f64 (fl x) (fl y)] ty_api_Delta) = w1 at o1 x1 ⊢
  have o2 := Owns.new (w := w1) zcells ty_api_Delta
  have x2 := Ex.alloc w1 (.cells zcells.toArray ty_api_Delta)
  unfold zcells at o2 x2
  have hb2 : w.heap.size ≤ w1.heap.size := x1.size
  have hne : b1 ≠ w1.heap.size := by have := o1.ge rfl; dsimp only at this; omega
  generalize w1.heap.size = b2 at o2 hb2 hne ⊢
  generalize w1.alloc (.cells #[.int .i64 0, .int .i64 0, .int .i64 0, .int .i64 0, .complex .f64 0 0] ty_api_Delta) = w2 at o2 x2 ⊢
  have x12 := x1.trans x2
  have o1 := o1.ex x2
  refine ⟨v, o1.at (by rfl), ?_⟩
  refine callP.use (in_spec v 0 8 w2) ?_
  rintro _ _ ⟨rfl, rfl⟩
  try dsimp only [dI_i64, dI_u8, dI_u16, dI_u32, dB_bool, dS_slice, dP_ptr, dT_tup, dA_agg, dStr_str, dF_f, dC_c, dM_m, optP_some, ga0, ga1, ga2, ga3, ga4, cond_true, cond_false, chk_true, Bool.not_true, Bool.not_false, Option.isNone_none, Option.isNone_some, List.toList_toArray]
  refine ⟨k, o1.at (by rfl), ?_⟩
  have hk : k = 1 ∨ k = 2 ∨ k = 3 ∨ k = 4 ∨ k = 5 := by
    simp only [inn, Bool.and_eq_true, decide_eq_true_eq] at hk
    omega
  have set : ∀ {w' : World} {cs ds : List Value} {j : Nat} {u : Value} {N : World → Prop}, Owns w' b1 ty_api_Delta 5 (some ⟨b1, 0, none⟩) 1 1 cs → Owns w' b2 ty_api_Delta 5 (some ⟨b2, 0, none⟩) 1 1 ds → Ex w w' → j < 5 → u.oneCell' = true →
      (∀ w3, Owns w3 b1 ty_api_Delta 5 (some ⟨b1, 0, none⟩) 1 1 (cs.set j u) → Owns w3 b2 ty_api_Delta 5 (some ⟨b2, 0, none⟩) 1 1 ds → Ex w w3 → N w3) →
      (w'.cell? (⟨b1, j, none⟩ : Addr)).isSome = true ∧ w'.frozen? (⟨b1, j, none⟩ : Addr) = false ∧ ∀ w3, w3 = w'.setCell (⟨b1, j, none⟩ : Addr) u → N w3 := by
    intro w' cs ds j u N p1 p2 px hj hu K
    refine p1.put1 (by omega) hu fun w3 k p => K w3 p (p2.kp k fun x hx e => ?_) (px.then k fun i hi => by omega)
    cases hx
    dsimp only at e
    omega
  have fin : ∀ {w' : World} {k' v' o' b' : Int} {x' y' : Nat} {g : Bool}, Owns w' b1 ty_api_Delta 5 (some ⟨b1, 0, none⟩) 1 1 [.int .i64 k', .int .i64 v', .int .i64 o', .int .i64 b', .complex .f64 x' y'] → Owns w' b2 ty_api_Delta 5 (some ⟨b2, 0, none⟩) 1 1 [.int .i64 0, .int .i64 0, .int .i64 0, .int .i64 0, .complex .f64 0 0] → Ex w w' →
      k' = k → v' = v → o' = leftO ⟨k, v, o, b, x, y⟩ → b' = leftB ⟨k, v, o, b, x, y⟩ → x' = fl (leftX ⟨k, v, o, b, x, y⟩) → y' = fl (leftY ⟨k, v, o, b, x, y⟩) → g = okR ⟨k, v, o, b, x, y⟩ →
      ∃ ca : Array Value, ca.size = 5 ∧ CellsAt w' (⟨b1, 0, none⟩ : Addr) ca.toList ∧ chk (decide (ca.size = 5)) (Wr w' (⟨b2, 0, none⟩ : Addr) ca.toList ∧ ∀ w3, w3 = w'.setCells (⟨b2, 0, none⟩ : Addr).block (⟨b2, 0, none⟩ : Addr).off ca.toList →
        ∃ cb : Array Value, cb.size = 5 ∧ CellsAt w3 (⟨b2, 0, none⟩ : Addr) cb.toList ∧ Ret (fun v_1 w' => v_1 = .tuple #[.agg #[.int .i64 k, .int .i64 v, .int .i64 (leftO ⟨k, v, o, b, x, y⟩), .int .i64 (leftB ⟨k, v, o, b, x, y⟩), .complex .f64 (fl (leftX ⟨k, v, o, b, x, y⟩)) (fl (leftY ⟨k, v, o, b, x, y⟩))], .bool (okR ⟨k, v, o, b, x, y⟩)] ∧ Ex w w') (.returned (.tuple #[.agg cb, .bool g])) w3) := by
    intro w' k' v' o' b' x' y' g p1 p2 px e1 e2 e3 e4 e5 e6 e7
    refine move5 p1 p2 cells_one px hb2 fun w3 hx3 _ => Ret.mk ⟨?_, hx3⟩
    subst e1 e2 e3 e4 e5 e6 e7
    rfl
  have tail : ∀ {w' : World} {x' y' : Nat} {g : Bool}, Owns w' b1 ty_api_Delta 5 (some ⟨b1, 0, none⟩) 1 1 [.int .i64 k, .int .i64 v, .int .i64 o, .int .i64 b, .complex .f64 x' y'] → Owns w' b2 ty_api_Delta 5 (some ⟨b2, 0, none⟩) 1 1 [.int .i64 0, .int .i64 0, .int .i64 0, .int .i64 0, .complex .f64 0 0] → Ex w w' → k = 4 ∨ k = 5 →
      x' = fl (leftX ⟨k, v, o, b, x, y⟩) → y' = fl (leftY ⟨k, v, o, b, x, y⟩) → (g && inn b 0 32) = okR ⟨k, v, o, b, x, y⟩ →
      delta_rest.k1 b1 b2 g w' (Ret fun v_1 w' => v_1 = .tuple #[.agg #[.int .i64 k, .int .i64 v, .int .i64 (leftO ⟨k, v, o, b, x, y⟩), .int .i64 (leftB ⟨k, v, o, b, x, y⟩), .complex .f64 (fl (leftX ⟨k, v, o, b, x, y⟩)) (fl (leftY ⟨k, v, o, b, x, y⟩))], .bool (okR ⟨k, v, o, b, x, y⟩)] ∧ Ex w w') := by
    intro w' x' y' g p1 p2 px hk e5 e6 e7
    unfold delta_rest.k1
    have e3 : o = leftO ⟨k, v, o, b, x, y⟩ := by rcases hk with rfl | rfl <;> rfl
    have e4 : (0 : Int) = leftB ⟨k, v, o, b, x, y⟩ := by rcases hk with rfl | rfl <;> rfl
    refine cond_of (fun h => ?_) (fun h => ?_)
    · subst h
      refine ⟨b, p1.at (by rfl), ?_⟩
      refine callP.use (in_spec b 0 32 w') ?_
      rintro _ _ ⟨rfl, rfl⟩
      try dsimp only [dI_i64, dI_u8, dI_u16, dI_u32, dB_bool, dS_slice, dP_ptr, dT_tup, dA_agg, dStr_str, dF_f, dC_c, dM_m, optP_some, ga0, ga1, ga2, ga3, ga4, cond_true, cond_false, chk_true, Bool.not_true, Bool.not_false, Option.isNone_none, Option.isNone_some, List.toList_toArray]
      exact set p1 p2 px (by omega) rfl fun w3 q1 q2 qx => fin q1 q2 qx rfl rfl e3 e4 e5 e6 e7
    · subst h
      exact set p1 p2 px (by omega) rfl fun w3 q1 q2 qx => fin q1 q2 qx rfl rfl e3 e4 e5 e6 e7
  rcases hk with rfl | rfl | rfl | rfl | rfl
  · rw [cond_pos (by rfl)]
    refine cond_of (fun h => ?_) (fun h => ?_)
    · refine ⟨b, o1.at (by rfl), ?_⟩
      refine callP.use (in_spec b 1 33 _) ?_
      rintro _ _ ⟨rfl, rfl⟩
      try dsimp only [dI_i64, dI_u8, dI_u16, dI_u32, dB_bool, dS_slice, dP_ptr, dT_tup, dA_agg, dStr_str, dF_f, dC_c, dM_m, optP_some, ga0, ga1, ga2, ga3, ga4, cond_true, cond_false, chk_true, Bool.not_true, Bool.not_false, Option.isNone_none, Option.isNone_some, List.toList_toArray]
      exact set o1 o2 x12 (by omega) rfl fun w3 q1 q2 qx => fin q1 q2 qx rfl rfl rfl rfl rfl rfl (by simp [okR, h])
    · exact set o1 o2 x12 (by omega) rfl fun w3 q1 q2 qx => fin q1 q2 qx rfl rfl rfl rfl rfl rfl (by simp [okR, h])
  · rw [cond_neg (by rfl), cond_pos (by rfl)]
    exact fin o1 o2 x12 rfl rfl rfl rfl rfl rfl (by simp [okR])
  · rw [cond_neg (by rfl), cond_neg (by rfl), cond_pos (by rfl)]
    refine cond_of (fun h => ?_) (fun h => ?_)
    · refine ⟨o, o1.at (by rfl), ?_⟩
      refine callP.use (in_spec o 0 8 _) ?_
      rintro _ _ ⟨rfl, rfl⟩
      try dsimp only [dI_i64, dI_u8, dI_u16, dI_u32, dB_bool, dS_slice, dP_ptr, dT_tup, dA_agg, dStr_str, dF_f, dC_c, dM_m, optP_some, ga0, ga1, ga2, ga3, ga4, cond_true, cond_false, chk_true, Bool.not_true, Bool.not_false, Option.isNone_none, Option.isNone_some, List.toList_toArray]
      refine cond_of (fun h' => ?_) (fun h' => ?_)
      · refine ⟨o, o1.at (by rfl), v, o1.at (by rfl), ?_⟩
        exact set o1 o2 x12 (by omega) rfl fun w3 q1 q2 qx => fin q1 q2 qx rfl rfl rfl rfl rfl rfl (by simp [okR, h, h', bne]; rfl)
      · exact set o1 o2 x12 (by omega) rfl fun w3 q1 q2 qx => fin q1 q2 qx rfl rfl rfl rfl rfl rfl (by simp [okR, h, h'])
    · exact set o1 o2 x12 (by omega) rfl fun w3 q1 q2 qx => fin q1 q2 qx rfl rfl rfl rfl rfl rfl (by simp [okR, h])
  · rw [cond_neg (by rfl), cond_neg (by rfl), cond_neg (by rfl), cond_pos (by rfl)]
    refine cond_of (fun h => ?_) (fun h => ?_)
    · refine ⟨fl x, fl y, o1.at (by rfl), ?_⟩
      refine callP.use (Whole_spec hx hy _) ?_
      rintro _ _ ⟨rfl, rfl⟩
      try dsimp only [dI_i64, dI_u8, dI_u16, dI_u32, dB_bool, dS_slice, dP_ptr, dT_tup, dA_agg, dStr_str, dF_f, dC_c, dM_m, optP_some, ga0, ga1, ga2, ga3, ga4, cond_true, cond_false, chk_true, Bool.not_true, Bool.not_false, Option.isNone_none, Option.isNone_some, List.toList_toArray]
      exact set o1 o2 x12 (by omega) rfl fun w3 q1 q2 qx => tail q1 q2 qx (.inl rfl) fl_zero.symm fl_zero.symm (by simp [okR, h])
    · exact set o1 o2 x12 (by omega) rfl fun w3 q1 q2 qx => tail q1 q2 qx (.inl rfl) fl_zero.symm fl_zero.symm (by simp [okR, h])
  · rw [cond_neg (by rfl), cond_neg (by rfl), cond_neg (by rfl), cond_neg (by rfl), cond_pos (by rfl)]
    exact tail o1 o2 x12 (.inr rfl) rfl rfl (by simp [okR])

/-! ### Check -/
theorem Check_spec {d : Dl} (hd : d.wf) (w : World) : delta_Check.C d.k d.v d.o d.b (fl d.x) (fl d.y) w (Ret fun v w' => v = .int .i64 (chk0 d) ∧ Ex w w') := by
  apply delta_Check.ok
  unfold delta_Check.main
  rintro b1 w1 rfl rfl
  have o1 := Owns.new (w := w) d.cells ty_api_Delta
  have x1 := Ex.alloc w (.cells d.cells.toArray ty_api_Delta)
  unfold Dl.cells at o1 x1
  generalize w.alloc (.cells #[.int .i64 d.k, .int .i64 d.v, .int .i64 d.o, .int .i64 d.b, .complex .f64 (fl d.x) (fl d.y)] ty_api_Delta) = w1 at o1 x1 ⊢
  refine ⟨d.k, o1.at (by rfl), ?_⟩
  refine callP.use (in_spec d.k 1 6 w1) ?_
  rintro _ _ ⟨rfl, rfl⟩
  try dsimp only [dI_i64, dI_u8, dI_u16, dI_u32, dB_bool, dS_slice, dP_ptr, dT_tup, dA_agg, dStr_str, dF_f, dC_c, dM_m, optP_some, ga0, ga1, ga2, ga3, ga4, cond_true, cond_false, chk_true, Bool.not_true, Bool.not_false, Option.isNone_none, Option.isNone_some, List.toList_toArray]
  refine cond_of (fun h => ?_) (fun h => ?_)
  · exact Ret.mk ⟨by unfold chk0; rw [if_neg (by simpa using h)], x1⟩
  · have hk : inn d.k 1 6 = true := by simpa using h
    refine ⟨d.cells.toArray, rfl, o1.cells, ?_⟩
    refine callP.use (rest_spec hd hk _) ?_
    rintro _ w4 ⟨rfl, x4⟩
    try dsimp only [dI_i64, dI_u8, dI_u16, dI_u32, dB_bool, dS_slice, dP_ptr, dT_tup, dA_agg, dStr_str, dF_f, dC_c, dM_m, optP_some, ga0, ga1, ga2, ga3, ga4, cond_true, cond_false, chk_true, Bool.not_true, Bool.not_false, Option.isNone_none, Option.isNone_some, List.toList_toArray]
    rintro b4 w6 rfl rfl
    have o6 := Owns.new (w := w4) zcells ty_api_Delta
    have x6 := Ex.alloc w4 (.cells zcells.toArray ty_api_Delta)
    unfold zcells at o6 x6
    have hb : w.heap.size ≤ w4.heap.size := (x1.trans x4).size
    generalize w4.heap.size = b4 at o6 hb ⊢
    generalize w4.alloc (.cells #[.int .i64 0, .int .i64 0, .int .i64 0, .int .i64 0, .complex .f64 0 0] ty_api_Delta) = w6 at o6 x6 ⊢
    refine chk_of (by rfl) ?_
    refine o6.put (by rfl) cells_one fun w7 k7 o7 => ?_
    have x7 : Ex w w7 := (x1.trans (x4.trans x6)).then k7 fun i hi => hi ▸ hb
    have hX : Byte (leftX d) := by unfold leftX; split; exact ⟨by omega, by omega⟩; exact hd.1
    have hY : Byte (leftY d) := by unfold leftY; split; exact ⟨by omega, by omega⟩; exact hd.2
    unfold chk0
    rw [if_pos hk]
    cases ho : okR d with
    | false =>
      rw [if_neg (by simp)]
      simp only [Bool.not_true, Bool.not_false, cond_true, cond_false]
      exact Ret.mk ⟨rfl, x7⟩
    | true =>
      rw [if_pos rfl]
      simp only [Bool.not_true, Bool.not_false, cond_true, cond_false]
      refine ⟨leftO d, o7.at (by rfl), ?_⟩
      refine cond_of (fun h => ?_) (fun h => ?_)
      · rw [if_neg (fun c => by simp [c.1] at h)]
        exact Ret.mk ⟨rfl, x7⟩
      have h2 : leftO d = 0 := by simpa using h
      refine ⟨leftB d, o7.at (by rfl), ?_⟩
      refine cond_of (fun h => ?_) (fun h => ?_)
      · rw [if_neg (fun c => by simp [c.2.1] at h)]
        exact Ret.mk ⟨rfl, x7⟩
      have h3 : leftB d = 0 := by simpa using h
      refine ⟨fl (leftX d), fl (leftY d), o7.at (by rfl), ?_⟩
      obtain ⟨_, _, _, _, _, eX⟩ := fl_byte hX
      obtain ⟨_, _, _, _, _, eY⟩ := fl_byte hY
      rw [eX, eY]
      refine cond_of (fun h => ?_) (fun h => ?_)
      · rw [if_neg (fun c => by simp [c.2.2.1, c.2.2.2] at h)]
        exact Ret.mk ⟨rfl, x7⟩
      · rw [if_pos (by simp at h; exact ⟨h2, h3, h.1, h.2⟩)]
        exact Ret.mk ⟨rfl, x7⟩
end Go.Proofs.Ytnbegeghcjldfaa.G
