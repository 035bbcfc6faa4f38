/-
  The gate: what its functions do, each over any memory.
-/
import Derived.Test.YtpbnjjjglbnnpaaG1
import Derived.Test.YtpbnjjjglbnnpaaG2
import Derived.Test.YtpbnjjjglbnnpaaDecV
namespace Go.Proofs.Ytpbnjjjglbnnpaa.G
open Go.Dec Go.RowKit
set_option linter.unusedVariables false
set_option linter.unusedSimpArgs false

/-- a request -/
structure Rq where
  k : Int
  v : Int
  b : Int
  s : Int
  bs : List Int
  p : Option Addr
  n : Nat
  c : Nat
def Rq.cells (r : Rq) : List Value := [.int .i64 r.k, .int .i64 r.v, .int .i64 r.b, .int .i64 r.s, .slice r.p r.n r.c]
abbrev bytesOf (r : Rq) : List Value := r.bs.map (Value.int .u8)
structure Small (r : Rq) : Prop where
  len : r.bs.length = r.n
  few : r.n ≤ 140737488351232
  wf : ∀ x ∈ r.bs, 0 ≤ x ∧ x < 256
structure RqOk (w : World) (r : Rq) : Prop where
  cells : CellsO w r.p (bytesOf r)
  small : Small r
theorem RqOk.ex {w w' : World} {r : Rq} (h : RqOk w r) (hx : Ex w w') : RqOk w' r := ⟨h.cells.ex hx, h.small⟩
def like (x y : Rq) : Prop := x.k = y.k ∧ x.v = y.v ∧ x.b = y.b ∧ x.s = y.s ∧ x.bs = y.bs
def good (k : Int) : Prop := 1 ≤ k ∧ k ≤ 9
def zeros : List Value := [.int .i64 0, .int .i64 0, .int .i64 0, .int .i64 0, .slice none 0 0]

/-! ### bytes.Clone, clone, Check, same -/
theorem five_one {a b c d : Int} {p : Option Addr} {n m : Nat} : ∀ y ∈ [Value.int .i64 a, .int .i64 b, .int .i64 c, .int .i64 d, .slice p n m], y.oneCell' = true := by
  intro y hy
  simp only [List.mem_cons, List.not_mem_nil, or_false] at hy
  rcases hy with rfl | rfl | rfl | rfl | rfl <;> rfl
theorem six_one {a b c d f : Int} {p : Option Addr} {n m : Nat} : ∀ y ∈ [Value.int .i64 a, .int .i64 b, .int .i64 c, .int .i64 d, .slice p n m, .int .i64 f], y.oneCell' = true := by
  intro y hy
  simp only [List.mem_cons, List.not_mem_nil, or_false] at hy
  rcases hy with rfl | rfl | rfl | rfl | rfl | rfl <;> rfl
theorem Clone_spec (p : Option Addr) (n c : Nat) (xs : List Value) (w : World) (hc : CellsO w p xs) (hl : xs.length = n) (hn : n ≤ 140737488351232) (h1 : ∀ y ∈ xs, y.oneCell' = true) :
    bytes_Clone.C p n c w (Ret fun v w' => ∃ p' c', v = .slice p' n c' ∧ Ex w w' ∧ Own w' w.heap.size 5 1 p' n c' xs) := by
  apply bytes_Clone.ok
  unfold bytes_Clone.main
  cases p with
  | none =>
    have : xs = [] := hc
    subst this
    have : n = 0 := by simpa using hl.symm
    subst this
    try dsimp only [dI_i64, dI_u8, dI_u16, dI_u32, dB_bool, dS_slice, dP_ptr, dT_tup, dA_agg, dStr_str, dF_f, dC_c, dM_m, optP_some, ga0, ga1, ga2, ga3, ga4, cond_true, cond_false, chk_true, Bool.not_true, Bool.not_false, Option.isNone_none, Option.isNone_some, List.toList_toArray]
    exact Ret.mk ⟨none, 0, rfl, Ex.refl w, Own.nil _ _ _ _⟩
  | some a =>
    try dsimp only [dI_i64, dI_u8, dI_u16, dI_u32, dB_bool, dS_slice, dP_ptr, dT_tup, dA_agg, dStr_str, dF_f, dC_c, dM_m, optP_some, ga0, ga1, ga2, ga3, ga4, cond_true, cond_false, chk_true, Bool.not_true, Bool.not_false, Option.isNone_none, Option.isNone_some, List.toList_toArray]
    rintro b1 w1 rfl rfl
    have ho := Own.alloc (w := w) [] 5 1 0 rfl
    have hx := Ex.alloc w (.cells #[] 5)
    refine appP_own ho (by have := hx.size; exact this) xs (CellsO.ex hx hc) (by omega) h1 rfl (by omega) (by omega) (fun p' c' w' ho' hk => ?_)
    rw [Nat.zero_add] at ho' ⊢
    rw [List.nil_append] at ho'
    exact Ret.mk ⟨p', c', rfl, hx.then hk (fun i ⟨x, e, hi⟩ => by cases e; exact Nat.le_of_eq hi), ho'⟩
theorem clone_spec (r : Rq) (w : World) (h : RqOk w r) :
    gate_clone.C r.k r.v r.b r.s r.p r.n r.c w (Ret fun v w' => ∃ p' c', v = .agg (Rq.cells { r with p := p', c := c' }).toArray ∧ Ex w w' ∧ Own w' w.heap.size 5 1 p' r.n c' (bytesOf r)) := by
  apply gate_clone.ok
  unfold gate_clone.main
  rintro b1 w1 rfl rfl b2 w2 rfl rfl
  have o1 := Own.new (w := w) (Rq.cells r) 29
  have x1 := Ex.alloc w (.cells (Rq.cells r).toArray 29)
  unfold Rq.cells at o1 x1
  generalize w.alloc (.cells #[.int .i64 r.k, .int .i64 r.v, .int .i64 r.b, .int .i64 r.s, .slice r.p r.n r.c] 29) = w1 at o1 x1 ⊢
  have o2 := Own.new (w := w1) zeros 29
  have x2 := Ex.alloc w1 (.cells zeros.toArray 29)
  unfold zeros at o2 x2
  generalize w1.alloc (.cells #[.int .i64 0, .int .i64 0, .int .i64 0, .int .i64 0, .slice none 0 0] 29) = w2 at o2 x2 ⊢
  have x12 := x1.trans x2
  have o12 := o1.ex x2
  refine ⟨_, _, _, o12.at (j := 4) rfl, ?_⟩
  refine callP.use (Clone_spec r.p r.n r.c (bytesOf r) w2 (h.cells.ex x12) (by simpa using h.small.len) h.small.few (vals_one _ _)) ?_
  rintro _ w3 ⟨p', c', rfl, x3, o3⟩
  try dsimp only [dI_i64, dI_u8, dI_u16, dI_u32, dB_bool, dS_slice, dP_ptr, dT_tup, dA_agg, dStr_str, dF_f, dC_c, dM_m, optP_some, ga0, ga1, ga2, ga3, ga4, cond_true, cond_false, chk_true, Bool.not_true, Bool.not_false, Option.isNone_none, Option.isNone_some, List.toList_toArray]
  have s1 : w.heap.size < w1.heap.size := (o1.typed rfl).2.2
  refine (o12.ex x3).put1 (j := 4) (by show 4 < 1 * 5; omega) rfl fun w5 k5 o5 => ?_
  refine ⟨#[.int .i64 r.k, .int .i64 r.v, .int .i64 r.b, .int .i64 r.s, .slice p' r.n c'], rfl, o5.cells, chkd_of rfl ?_⟩
  try dsimp only [dI_i64, dI_u8, dI_u16, dI_u32, dB_bool, dS_slice, dP_ptr, dT_tup, dA_agg, dStr_str, dF_f, dC_c, dM_m, optP_some, ga0, ga1, ga2, ga3, ga4, cond_true, cond_false, chk_true, Bool.not_true, Bool.not_false, Option.isNone_none, Option.isNone_some, List.toList_toArray]
  refine ((o2.ex x3).kp k5 (fun x e hi => by cases e; dsimp only at hi; omega)).put (by rfl) five_one fun w6 k6 o6 => ?_
  refine ⟨_, rfl, o6.cells, Ret.mk ⟨p', c', rfl, ?_, ?_⟩⟩
  · refine ((x12.trans x3).then k5 fun i hi => ?_).then k6 fun i hi => ?_
    · rw [hi]; exact Nat.le_refl _
    · rw [hi]; exact x1.size
  · have b3 : w2.heap.size ≤ w2.heap.size := Nat.le_refl _
    have s2 : w1.heap.size < w2.heap.size := (o2.typed rfl).2.2
    refine ((o3.kp k5 fun x e hi => ?_).kp k6 fun x e hi => ?_).lower (Nat.le_trans x1.size x2.size)
    · have := (o3.ge e).1
      omega
    · have := (o3.ge e).1
      omega
theorem Check_spec (r : Rq) (w : World) : gate_Check.C r.k r.v r.b r.s r.p r.n r.c w (Ret fun v w' => (good r.k ∧ v = .int .i64 0 ∨ ¬ good r.k ∧ v = .int .i64 1) ∧ Ex w w') := by
  apply gate_Check.ok
  unfold gate_Check.main
  rintro b1 w1 rfl rfl
  have o1 := Own.new (w := w) (Rq.cells r) 29
  have x1 := Ex.alloc w (.cells (Rq.cells r).toArray 29)
  unfold Rq.cells at o1 x1
  generalize w.alloc (.cells #[.int .i64 r.k, .int .i64 r.v, .int .i64 r.b, .int .i64 r.s, .slice r.p r.n r.c] 29) = w1 at o1 x1 ⊢
  unfold good
  refine ⟨_, o1.at (j := 0) rfl, cond_of (fun h => ?_) (fun h => ?_)⟩
  · have := of_decide_eq_true h
    exact Ret.mk ⟨.inr ⟨by omega, rfl⟩, x1⟩
  have h1 := of_decide_eq_false h
  refine ⟨_, o1.at (j := 0) rfl, cond_of (fun h => ?_) (fun h => ?_)⟩
  · have := of_decide_eq_true h
    exact Ret.mk ⟨.inr ⟨by omega, rfl⟩, x1⟩
  have h2 := of_decide_eq_false h
  exact Ret.mk ⟨.inl ⟨by omega, rfl⟩, x1⟩
theorem same_spec (x y : Rq) (w : World) (hx : RqOk w x) (hy : RqOk w y) :
    stopcocklaw19_same.C x.k x.v x.b x.s x.p x.n x.c y.k y.v y.b y.s y.p y.n y.c w (Ret fun v w' => (like x y → v = .bool true) ∧ (∃ t, v = .bool t) ∧ Ex w w') := by
  apply stopcocklaw19_same.ok
  unfold stopcocklaw19_same.main
  rintro b1 w1 rfl rfl b2 w2 rfl rfl
  have o1 := Own.new (w := w) (Rq.cells x) 29
  have x1 := Ex.alloc w (.cells (Rq.cells x).toArray 29)
  unfold Rq.cells at o1 x1
  generalize w.alloc (.cells #[.int .i64 x.k, .int .i64 x.v, .int .i64 x.b, .int .i64 x.s, .slice x.p x.n x.c] 29) = w1 at o1 x1 ⊢
  have o2 := Own.new (w := w1) (Rq.cells y) 29
  have x2 := Ex.alloc w1 (.cells (Rq.cells y).toArray 29)
  unfold Rq.cells at o2 x2
  generalize w1.alloc (.cells #[.int .i64 y.k, .int .i64 y.v, .int .i64 y.b, .int .i64 y.s, .slice y.p y.n y.c] 29) = w2 at o2 x2 ⊢
  have x12 := x1.trans x2
  have o12 := o1.ex x2
  have no : ¬ like x y → Ret (fun v w' => (like x y → v = .bool true) ∧ (∃ t, v = .bool t) ∧ Ex w w') (.returned (Value.bool false)) w2 := fun hn => Ret.mk ⟨fun h => (hn h).elim, ⟨false, rfl⟩, x12⟩
  refine ⟨_, o12.at (j := 0) rfl, _, o2.at (j := 0) rfl, cond_of (fun e1 => ?_) (fun e1 => no fun h => by simp [h.1] at e1)⟩
  refine ⟨_, o12.at (j := 1) rfl, _, o2.at (j := 1) rfl, cond_of (fun e2 => ?_) (fun e1 => no fun h => by simp [h.2.1] at e1)⟩
  refine ⟨_, o12.at (j := 2) rfl, _, o2.at (j := 2) rfl, cond_of (fun e3 => ?_) (fun e1 => no fun h => by simp [h.2.2.1] at e1)⟩
  refine ⟨_, o12.at (j := 3) rfl, _, o2.at (j := 3) rfl, cond_of (fun e4 => ?_) (fun e1 => no fun h => by simp [h.2.2.2.1] at e1)⟩
  refine ⟨_, _, _, o12.at (j := 4) rfl, x.bs, hx.small.len, hx.cells.ex x12, _, _, _, o2.at (j := 4) rfl, y.bs, hy.small.len, hy.cells.ex x12, Ret.mk ⟨fun h => ?_, ⟨_, rfl⟩, x12⟩⟩
  rw [strOf_eq hx.small.wf hy.small.wf, decide_eq_true h.2.2.2.2]

/-! ### The gate's state -/
def boxed (x : Rq × Int) : Value := .iface 50 (.agg #[.int .i64 x.1.k, .int .i64 x.1.v, .int .i64 x.1.b, .int .i64 x.1.s, .slice x.1.p x.1.n x.1.c, .int .i64 x.2])
def GateIs (w : World) (B : Nat) (pg : Nat) (xs : List (Rq × Int)) (tk : Int) : Prop :=
  ∃ q c, Own w B 47 2 (some ⟨pg, 0, none⟩) 1 1 [.slice q xs.length c, .int .i64 tk] ∧ OwnO w B 20 1 q xs.length c (xs.map boxed) ∧ ∀ x ∈ xs, Own w B 5 1 x.1.p x.1.n x.1.c (bytesOf x.1) ∧ Small x.1
theorem GateIs.ex {w w' : World} {B pg : Nat} {xs : List (Rq × Int)} {tk : Int} (h : GateIs w B pg xs tk) (hx : Ex w w') : GateIs w' B pg xs tk := by
  obtain ⟨q, c, h1, h2, h3⟩ := h
  exact ⟨q, c, h1.ex hx, h2.ex hx, fun x hm => ⟨(h3 x hm).1.ex hx, (h3 x hm).2⟩⟩
/-- what a call may change -/
def Mod (w : World) (B : Nat) (i : Nat) : Prop := B ≤ i ∧ (Typed w 47 i ∨ Typed w 20 i)
theorem Own.mod {w w' : World} {B B' : Nat} {e : TypeId} {sz : Nat} {p : Option Addr} {n c : Nat} {xs : List Value} (h : Own w B' e sz p n c xs) (hk : Kp w w' (Mod w B)) (h1 : e ≠ 47) (h2 : e ≠ 20) : Own w' B' e sz p n c xs :=
  h.kp hk fun x hx hm => by
    have ht := (h.typed hx).1
    rcases hm.2 with hm | hm
    · exact ht.ne hm h1 rfl
    · exact ht.ne hm h2 rfl
theorem OwnO.mod {w w' : World} {B B' : Nat} {e : TypeId} {sz : Nat} {p : Option Addr} {n c : Nat} {xs : List Value} (h : OwnO w B' e sz p n c xs) (hk : Kp w w' (Mod w B)) (h1 : e ≠ 47) (h2 : e ≠ 20) : OwnO w' B' e sz p n c xs :=
  h.kp hk fun x hx hm => by
    have ht := (h.typed hx).1
    rcases hm.2 with hm | hm
    · exact ht.ne hm h1 rfl
    · exact ht.ne hm h2 rfl

theorem New_spec (w : World) : gate_New.C w (Ret fun v w' => v = .pointer (some ⟨w.heap.size, 0, none⟩) ∧ Ex w w' ∧ GateIs w' w.heap.size w.heap.size [] 0) := by
  apply gate_New.ok
  unfold gate_New.main
  rintro b1 w1 rfl rfl
  have o1 := Own.new (w := w) [.slice none 0 0, .int .i64 0] 47
  exact Ret.mk ⟨rfl, Ex.alloc w _, none, 0, o1, OwnO.nil _ _ _ _, fun x hx => by cases hx⟩
theorem Len_spec {w : World} {B pg : Nat} {xs : List (Rq × Int)} {tk : Int} (h : GateIs w B pg xs tk) : gate_Gate_Len.C (some ⟨pg, 0, none⟩) w (Ret fun v w' => v = .int .i64 ((xs.length : Nat) : Int) ∧ w' = w) := by
  apply gate_Gate_Len.ok
  unfold gate_Gate_Len.main
  obtain ⟨q, c, h1, h2, h3⟩ := h
  try dsimp only [dI_i64, dI_u8, dI_u16, dI_u32, dB_bool, dS_slice, dP_ptr, dT_tup, dA_agg, dStr_str, dF_f, dC_c, dM_m, optP_some, ga0, ga1, ga2, ga3, ga4, cond_true, cond_false, chk_true, Bool.not_true, Bool.not_false, Option.isNone_none, Option.isNone_some, List.toList_toArray]
  exact ⟨_, _, _, h1.at (j := 0) rfl, Ret.mk ⟨rfl, rfl⟩⟩
theorem Len_none (w : World) : gate_Gate_Len.C none w (Ret fun v w' => v = .int .i64 0 ∧ w' = w) := by
  apply gate_Gate_Len.ok
  unfold gate_Gate_Len.main
  try dsimp only [dI_i64, dI_u8, dI_u16, dI_u32, dB_bool, dS_slice, dP_ptr, dT_tup, dA_agg, dStr_str, dF_f, dC_c, dM_m, optP_some, ga0, ga1, ga2, ga3, ga4, cond_true, cond_false, chk_true, Bool.not_true, Bool.not_false, Option.isNone_none, Option.isNone_some, List.toList_toArray]
  exact Ret.mk ⟨rfl, rfl⟩
theorem First_none (w : World) : gate_Gate_First.C none w (Ret fun v w' => v = .tuple #[.int .i64 0, .agg zeros.toArray, .int .i64 1] ∧ Ex w w') := by
  apply gate_Gate_First.ok
  unfold gate_Gate_First.main
  rintro b1 w1 rfl rfl
  have o1 := Own.new (w := w) zeros 29
  have x1 := Ex.alloc w (.cells zeros.toArray 29)
  unfold zeros at o1 x1
  generalize w.alloc (.cells #[.int .i64 0, .int .i64 0, .int .i64 0, .int .i64 0, .slice none 0 0] 29) = w1 at o1 x1 ⊢
  try dsimp only [dI_i64, dI_u8, dI_u16, dI_u32, dB_bool, dS_slice, dP_ptr, dT_tup, dA_agg, dStr_str, dF_f, dC_c, dM_m, optP_some, ga0, ga1, ga2, ga3, ga4, cond_true, cond_false, chk_true, Bool.not_true, Bool.not_false, Option.isNone_none, Option.isNone_some, List.toList_toArray]
  refine o1.put (by rfl) five_one fun w2 k2 o2 => ?_
  exact ⟨_, rfl, o2.cells, Ret.mk ⟨rfl, x1.then k2 fun i hi => by rw [hi]; exact Nat.le_refl _⟩⟩
theorem First_nil {w : World} {B pg : Nat} {tk : Int} (h : GateIs w B pg [] tk) : gate_Gate_First.C (some ⟨pg, 0, none⟩) w (Ret fun v w' => v = .tuple #[.int .i64 0, .agg zeros.toArray, .int .i64 4] ∧ Ex w w') := by
  apply gate_Gate_First.ok
  unfold gate_Gate_First.main
  obtain ⟨q, c, h1, h2, h3⟩ := h
  rintro b1 w1 rfl rfl
  have o1 := Own.new (w := w) zeros 29
  have x1 := Ex.alloc w (.cells zeros.toArray 29)
  unfold zeros at o1 x1
  generalize w.alloc (.cells #[.int .i64 0, .int .i64 0, .int .i64 0, .int .i64 0, .slice none 0 0] 29) = w1 at o1 x1 ⊢
  try dsimp only [dI_i64, dI_u8, dI_u16, dI_u32, dB_bool, dS_slice, dP_ptr, dT_tup, dA_agg, dStr_str, dF_f, dC_c, dM_m, optP_some, ga0, ga1, ga2, ga3, ga4, cond_true, cond_false, chk_true, Bool.not_true, Bool.not_false, Option.isNone_none, Option.isNone_some, List.toList_toArray]
  refine ⟨_, _, _, (h1.ex x1).at (j := 0) rfl, ?_⟩
  rw [cond_pos (by simp)]
  refine o1.put (by rfl) five_one fun w2 k2 o2 => ?_
  exact ⟨_, rfl, o2.cells, Ret.mk ⟨rfl, x1.then k2 fun i hi => by rw [hi]; exact Nat.le_refl _⟩⟩
theorem First_cons {w : World} {B pg : Nat} {x : Rq × Int} {xs : List (Rq × Int)} {tk : Int} (h : GateIs w B pg (x :: xs) tk) :
    gate_Gate_First.C (some ⟨pg, 0, none⟩) w (Ret fun v w' => ∃ p' c', v = .tuple #[.int .i64 x.2, .agg (Rq.cells { x.1 with p := p', c := c' }).toArray, .int .i64 0] ∧ Ex w w' ∧ Own w' w.heap.size 5 1 p' x.1.n c' (bytesOf x.1)) := by
  apply gate_Gate_First.ok
  unfold gate_Gate_First.main
  obtain ⟨q, c, h1, h2, h3⟩ := h
  rintro b1 w1 rfl rfl
  have o1 := Own.new (w := w) zeros 29
  have x1 := Ex.alloc w (.cells zeros.toArray 29)
  unfold zeros at o1 x1
  generalize w.alloc (.cells #[.int .i64 0, .int .i64 0, .int .i64 0, .int .i64 0, .slice none 0 0] 29) = w1 at o1 x1 ⊢
  try dsimp only [dI_i64, dI_u8, dI_u16, dI_u32, dB_bool, dS_slice, dP_ptr, dT_tup, dA_agg, dStr_str, dF_f, dC_c, dM_m, optP_some, ga0, ga1, ga2, ga3, ga4, cond_true, cond_false, chk_true, Bool.not_true, Bool.not_false, Option.isNone_none, Option.isNone_some, List.toList_toArray]
  refine ⟨_, _, _, (h1.ex x1).at (j := 0) rfl, ?_⟩
  rw [cond_neg (by simp; omega)]
  refine ⟨_, _, _, (h1.ex x1).at (j := 0) rfl, chkd_of (by simp) ?_⟩
  obtain ⟨a, hq, hcell⟩ := ((h2.ex x1).cells).one (v := boxed x) rfl
  refine optP_of hq ⟨_, hcell, ?_⟩
  unfold boxed
  refine chkd_of rfl ?_
  try dsimp only [dI_i64, dI_u8, dI_u16, dI_u32, dB_bool, dS_slice, dP_ptr, dT_tup, dA_agg, dStr_str, dF_f, dC_c, dM_m, optP_some, ga0, ga1, ga2, ga3, ga4, cond_true, cond_false, chk_true, Bool.not_true, Bool.not_false, Option.isNone_none, Option.isNone_some, List.toList_toArray]
  rintro b2 w4 rfl rfl
  have o4 := Own.new (w := w1) [.int .i64 0, .int .i64 0, .int .i64 0, .int .i64 0, .slice none 0 0, .int .i64 0] 50
  have x4 := Ex.alloc w1 (.cells #[.int .i64 0, .int .i64 0, .int .i64 0, .int .i64 0, .slice none 0 0, .int .i64 0] 50)
  generalize w1.alloc (.cells #[.int .i64 0, .int .i64 0, .int .i64 0, .int .i64 0, .slice none 0 0, .int .i64 0] 50) = w4 at o4 x4 ⊢
  refine chkd_of rfl ?_
  try dsimp only [dI_i64, dI_u8, dI_u16, dI_u32, dB_bool, dS_slice, dP_ptr, dT_tup, dA_agg, dStr_str, dF_f, dC_c, dM_m, optP_some, ga0, ga1, ga2, ga3, ga4, cond_true, cond_false, chk_true, Bool.not_true, Bool.not_false, Option.isNone_none, Option.isNone_some, List.toList_toArray]
  refine o4.put (by rfl) six_one fun w5 k5 o5 => ?_
  have x5 : Ex w1 w5.drew := (x4.then k5 fun i hi => by rw [hi]; exact Nat.le_refl _).trans (Ex.drew w5)
  have o5 := o5.ex (Ex.drew w5)
  generalize w5.drew = w5 at x5 o5 ⊢
  refine ⟨_, o5.at (j := 5) rfl, _, rfl, (o5.cells).take 5, ?_⟩
  obtain ⟨d1, d2⟩ := h3 x (List.mem_cons_self ..)
  refine callP.use (clone_spec x.1 w5 ⟨((d1.ex x1).ex x5).cells, d2⟩) ?_
  rintro _ w6 ⟨p', c', rfl, x6, o6⟩
  unfold Rq.cells
  try dsimp only [dI_i64, dI_u8, dI_u16, dI_u32, dB_bool, dS_slice, dP_ptr, dT_tup, dA_agg, dStr_str, dF_f, dC_c, dM_m, optP_some, ga0, ga1, ga2, ga3, ga4, cond_true, cond_false, chk_true, Bool.not_true, Bool.not_false, Option.isNone_none, Option.isNone_some, List.toList_toArray]
  refine ⟨(o5.ex x6).at (j := 5) rfl, chkd_of rfl ?_⟩
  try dsimp only [dI_i64, dI_u8, dI_u16, dI_u32, dB_bool, dS_slice, dP_ptr, dT_tup, dA_agg, dStr_str, dF_f, dC_c, dM_m, optP_some, ga0, ga1, ga2, ga3, ga4, cond_true, cond_false, chk_true, Bool.not_true, Bool.not_false, Option.isNone_none, Option.isNone_some, List.toList_toArray]
  have s1 : w.heap.size < w1.heap.size := (o1.typed rfl).2.2
  have s5 := x5.size
  refine ((o1.ex x5).ex x6).put (by rfl) five_one fun w8 k8 o8 => ?_
  refine ⟨_, rfl, o8.cells, Ret.mk ⟨p', c', rfl, ((x1.trans x5).trans x6).then k8 fun i hi => by rw [hi]; exact Nat.le_refl _, ?_⟩⟩
  refine (o6.kp k8 fun y e hi => ?_).lower (by omega)
  have := (o6.ge e).1
  omega
end Go.Proofs.Ytpbnjjjglbnnpaa.G
