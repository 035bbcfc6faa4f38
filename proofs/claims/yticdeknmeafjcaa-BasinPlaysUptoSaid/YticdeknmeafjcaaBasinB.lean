/-
  The device: Put.
-/
import Derived.Test.YticdeknmeafjcaaBasinA
namespace Go.Proofs.Yticdeknmeafjcaa.G
open Go.Dec Go.RowKit
set_option linter.unusedVariables false
set_option linter.unusedSimpArgs false

/-- a write that is handed in -/
structure Wt where
  i : Int
  bs : List Int
  p : Option Addr
  n : Nat
  c : Nat
def Wt.cells (x : Wt) : List Value := [.int .i64 x.i, .slice x.p x.n x.c]
structure WtOk (w : World) (D : Nat → Prop) (x : Wt) : Prop where
  cells : CellsK w D x.p (u8s x.bs)
  len : x.bs.length = x.n
  wf : ∀ b ∈ x.bs, 0 ≤ b ∧ b < 256
theorem two_one {a : Int} {p : Option Addr} {n m : Nat} : ∀ y ∈ [Value.int .i64 a, .slice p n m], y.oneCell' = true := by
  intro y hy
  simp only [List.mem_cons, List.not_mem_nil, or_false] at hy
  rcases hy with rfl | rfl <;> rfl
def put1 (d : Dev) (i : Int) (s : List Int) : Dev := { d with now := d.now.set i.toNat s, loose := d.loose ++ [(i, s)] }
def putAll : Dev → List (Int × List Int) → Dev × Int
  | d, [] => (d, 0)
  | d, x :: r => if (spend d).off then (spend d, 10) else putAll (put1 (spend d) x.1 x.2) r
def wide (x : Int × List Int) : Bool := x.2.length != 64
def out (n : Nat) (x : Int × List Int) : Bool := decide (x.1 < 0) || decide (x.1 ≥ (n : Int))
def Put (d : Dev) (ws : List (Int × List Int)) : Dev × Int :=
  if d.off then (d, 10) else if ws.any wide then (d, 6) else if ws.any (out d.now.length) then (d, 5) else putAll d ws
def Wt.plain (x : Wt) : Int × List Int := (x.i, x.bs)
theorem getE {α : Type} {l : List α} {i : Nat} (h : i < l.length) : ∃ x, l[i]? = some x ∧ x ∈ l ∧ l.drop i = x :: l.drop (i + 1) := ⟨l[i], List.getElem?_eq_getElem h, List.getElem_mem h, List.drop_eq_getElem_cons h⟩
theorem row2 {w : World} {p : Option Addr} {ws : List Wt} (h : CellsO w p (ws.map Wt.cells).flatten) {i : Nat} {x : Wt} (hi : ws[i]? = some x) : ∃ a, p = some a ∧ CellsAt w (a.add (i * 2)) x.cells :=
  h.row (fun r hr => by obtain ⟨q, _, rfl⟩ := List.mem_map.1 hr; rfl) (by decide) (by rw [List.getElem?_map, hi]; rfl)

/-! ### Is there one such? -/
theorem f25_spec (x : Wt) (w : World) : basin_Basin_Put_1.C x.i x.p x.n x.c w (Ret fun v w' => v = .bool ((x.n : Int) != 64) ∧ Ex w w') := by
  apply basin_Basin_Put_1.ok
  unfold basin_Basin_Put_1.main
  rintro b1 w1 rfl rfl
  have o1 := Own.new (w := w) x.cells 32
  have x1 := Ex.alloc w (.cells x.cells.toArray 32)
  exact ⟨_, _, _, o1.at (j := 1) rfl, Ret.mk ⟨rfl, x1⟩⟩
theorem f26_spec (x : Wt) {w : World} {B B' pd q : Nat} {d : Dev} {D : Nat → Prop} (h : DevIs w B pd d D) (hq : Own w B' 24 1 (some ⟨q, 0, none⟩) 1 1 [.pointer (some ⟨pd, 0, none⟩)]) : basin_Basin_Put_2.C x.i x.p x.n x.c q w (Ret fun v w' => v = .bool (out d.now.length (x.i, x.bs)) ∧ Ex w w') := by
  apply basin_Basin_Put_2.ok
  unfold basin_Basin_Put_2.main
  rintro b1 w1 rfl rfl
  have o1 := Own.new (w := w) x.cells 32
  have x1 := Ex.alloc w (.cells x.cells.toArray 32)
  unfold out
  refine ⟨_, o1.at (j := 0) rfl, cond_of (fun hc k1 => ?_) (fun hc => ?_)⟩
  · rw [hc]
    exact Ret.mk ⟨rfl, x1.trans (Ex.drewN _ _)⟩
  · rw [hc]
    obtain ⟨bs, bn, pl, ml, h, hD⟩ := h.ex x1
    refine ⟨_, o1.at (j := 0) rfl, _, (hq.ex x1).at (j := 0) rfl, ?_⟩
    try dsimp only [dI_i64, dI_u8, dI_u16, dI_u32, dB_bool, dS_slice, dP_ptr, dT_tup, dA_agg, dStr_str, dF_f, dC_c, dM_m, optP_some, ga0, ga1, ga2, ga3, ga4, cond_true, cond_false, chk_true, Bool.not_true, Bool.not_false, Option.isNone_none, Option.isNone_some, List.toList_toArray]
    simp only [addr1]
    refine ⟨_, _, _, h.cell.at (j := 1) rfl, fun k1 => Ret.mk ⟨by rw [Bool.false_or], x1.trans (Ex.drewN _ _)⟩⟩
theorem any_at {α : Type} {P : α → Bool} {l : List α} {i : Nat} {x : α} (hi : l[i]? = some x) (hx : P x = true) : l.any P = true := List.any_eq_true.2 ⟨x, List.mem_of_getElem? hi, hx⟩
theorem any_none {α : Type} {P : α → Bool} {l : List α} (h : ∀ (j : Nat) x, j < l.length → l[j]? = some x → P x = false) : l.any P = false := by
  rw [List.any_eq_false]
  intro x hx
  obtain ⟨j, hj⟩ := List.getElem?_of_mem hx
  have := h j x (List.getElem?_eq_some_iff.1 hj).1 hj
  simp [this]
theorem has25 {w : World} {D : Nat → Prop} {lp : Option Addr} {n c : Nat} {ws : List Wt} (hn : ws.length = n) (hl : CellsO w lp (ws.map Wt.cells).flatten) (hw : ∀ x ∈ ws, WtOk w D x) (hb : n ≤ 1000000000000000) :
    api_Write.C lp n c (.func (.func 25) #[] #[]) w (Ret fun v w' => v = .bool ((ws.map Wt.plain).any wide) ∧ Ex w w') := by
  apply api_Write.ok
  unfold api_Write.main
  have main : api_Write_f25.C lp n c w (Ret fun v w' => ∃ r, v = .int .i64 r ∧ decide (r ≥ 0) = (ws.map Wt.plain).any wide ∧ Ex w w') := by
    apply api_Write_f25.ok
    unfold api_Write_f25.main
    refine ⟨fun t0p t0n t0c t7 t8 w' => lp = t0p ∧ n = t0n ∧ c = t0c ∧ t7 = (n : Int) ∧ 0 ≤ t8 ∧ t8 ≤ (n : Int) ∧ Ex w w' ∧ ∀ (j : Nat) x, j < t8.toNat → (ws.map Wt.plain)[j]? = some x → wide x = false, fun t0p t0n t0c t7 t8 w' => ((n : Int) - t8).toNat, ?_, ?_⟩
    · exact ⟨rfl, rfl, rfl, rfl, by omega, by omega, Ex.refl w, fun j x hj => by simp at hj⟩
    rintro _ _ _ _ t8 w1 ⟨rfl, rfl, rfl, rfl, h0, h1, x1, hno⟩
    unfold api_Write_f25.b1
    refine cond_of (fun hc => ?_) (fun hc => ?_)
    · have hc := of_decide_eq_true hc
      obtain ⟨x, hx, hxm, _⟩ := getE (l := ws) (i := t8.toNat) (by omega)
      obtain ⟨a, rfl, hcell⟩ := row2 (hl.ex x1) hx
      refine chkd_of h0 (chkd_of hc ⟨x.cells.toArray, rfl, hcell, ?_⟩)
      refine callP.use (f25_spec x w1) ?_
      rintro _ w2 ⟨rfl, x2⟩
      try dsimp only [dI_i64, dI_u8, dI_u16, dI_u32, dB_bool, dS_slice, dP_ptr, dT_tup, dA_agg, dStr_str, dF_f, dC_c, dM_m, optP_some, ga0, ga1, ga2, ga3, ga4, cond_true, cond_false, chk_true, Bool.not_true, Bool.not_false, Option.isNone_none, Option.isNone_some, List.toList_toArray]
      have hp : (ws.map Wt.plain)[t8.toNat]? = some x.plain := by rw [List.getElem?_map, hx]; rfl
      have he : ((x.n : Int) != 64) = wide x.plain := by
        unfold wide Wt.plain
        rw [← (hw x hxm).len]
        rw [Bool.eq_iff_iff]
        simp
        omega
      rw [he]
      refine cond_of (fun hy => ?_) (fun hy => ?_)
      · exact Ret.mk ⟨t8, rfl, by rw [any_at hp hy]; simpa using h0, x1.trans x2⟩
      · rw [w64 (by omega) (by omega)]
        refine ⟨⟨rfl, rfl, rfl, rfl, by omega, by omega, x1.trans x2, fun j y hj hjy => ?_⟩, by omega⟩
        by_cases hjt : j < t8.toNat
        · exact hno j y hjt hjy
        · have : j = t8.toNat := by omega
          subst this
          rw [hp] at hjy
          cases hjy
          exact hy
    · have hc := of_decide_eq_false hc
      refine Ret.mk ⟨-1, rfl, ?_, x1⟩
      rw [any_none fun j x hj hx => hno j x (by simp at hj; omega) hx]
      decide
  refine callP.use main ?_
  rintro _ w1 ⟨r, rfl, hr, x1⟩
  try dsimp only [dI_i64, dI_u8, dI_u16, dI_u32, dB_bool, dS_slice, dP_ptr, dT_tup, dA_agg, dStr_str, dF_f, dC_c, dM_m, optP_some, ga0, ga1, ga2, ga3, ga4, cond_true, cond_false, chk_true, Bool.not_true, Bool.not_false, Option.isNone_none, Option.isNone_some, List.toList_toArray]
  rw [hr]
  exact Ret.mk ⟨rfl, x1⟩
theorem has26 {w : World} {B B' pd q : Nat} {d : Dev} {D : Nat → Prop} (h : DevIs w B pd d D) (hq : Own w B' 24 1 (some ⟨q, 0, none⟩) 1 1 [.pointer (some ⟨pd, 0, none⟩)]) {lp : Option Addr} {n c : Nat} {ws : List Wt} (hn : ws.length = n) (hl : CellsO w lp (ws.map Wt.cells).flatten) (hb : n ≤ 1000000000000000) :
    api_Write.C lp n c (.func (.func 26) #[] #[.pointer (some ⟨q, 0, none⟩)]) w (Ret fun v w' => v = .bool ((ws.map Wt.plain).any (out d.now.length)) ∧ Ex w w') := by
  apply api_Write.ok
  unfold api_Write.main
  have main : api_Write_f26.C lp n c q w (Ret fun v w' => ∃ r, v = .int .i64 r ∧ decide (r ≥ 0) = (ws.map Wt.plain).any (out d.now.length) ∧ Ex w w') := by
    apply api_Write_f26.ok
    unfold api_Write_f26.main
    refine ⟨fun t0p t0n t0c t1 t7 t8 w' => lp = t0p ∧ n = t0n ∧ c = t0c ∧ q = t1 ∧ t7 = (n : Int) ∧ 0 ≤ t8 ∧ t8 ≤ (n : Int) ∧ Ex w w' ∧ ∀ (j : Nat) x, j < t8.toNat → (ws.map Wt.plain)[j]? = some x → out d.now.length x = false, fun t0p t0n t0c t1 t7 t8 w' => ((n : Int) - t8).toNat, ?_, ?_⟩
    · exact ⟨rfl, rfl, rfl, rfl, rfl, by omega, by omega, Ex.refl w, fun j x hj => by simp at hj⟩
    rintro _ _ _ _ _ t8 w1 ⟨rfl, rfl, rfl, rfl, rfl, h0, h1, x1, hno⟩
    unfold api_Write_f26.b1
    refine cond_of (fun hc => ?_) (fun hc => ?_)
    · have hc := of_decide_eq_true hc
      obtain ⟨x, hx, hxm, _⟩ := getE (l := ws) (i := t8.toNat) (by omega)
      obtain ⟨a, rfl, hcell⟩ := row2 (hl.ex x1) hx
      refine chkd_of h0 (chkd_of hc ⟨x.cells.toArray, rfl, hcell, ?_⟩)
      refine callP.use (f26_spec x (h.ex x1) (hq.ex x1)) ?_
      rintro _ w2 ⟨rfl, x2⟩
      try dsimp only [dI_i64, dI_u8, dI_u16, dI_u32, dB_bool, dS_slice, dP_ptr, dT_tup, dA_agg, dStr_str, dF_f, dC_c, dM_m, optP_some, ga0, ga1, ga2, ga3, ga4, cond_true, cond_false, chk_true, Bool.not_true, Bool.not_false, Option.isNone_none, Option.isNone_some, List.toList_toArray]
      have hp : (ws.map Wt.plain)[t8.toNat]? = some x.plain := by rw [List.getElem?_map, hx]; rfl
      refine cond_of (fun hy => ?_) (fun hy => ?_)
      · exact Ret.mk ⟨t8, rfl, by rw [any_at hp hy]; simpa using h0, x1.trans x2⟩
      · rw [w64 (by omega) (by omega)]
        refine ⟨⟨rfl, rfl, rfl, rfl, rfl, by omega, by omega, x1.trans x2, fun j y hj hjy => ?_⟩, by omega⟩
        by_cases hjt : j < t8.toNat
        · exact hno j y hjt hjy
        · have : j = t8.toNat := by omega
          subst this
          rw [hp] at hjy
          cases hjy
          exact hy
    · have hc := of_decide_eq_false hc
      refine Ret.mk ⟨-1, rfl, ?_, x1⟩
      rw [any_none fun j x hj hx => hno j x (by simp at hj; omega) hx]
      decide
  refine callP.use main ?_
  rintro _ w1 ⟨r, rfl, hr, x1⟩
  try dsimp only [dI_i64, dI_u8, dI_u16, dI_u32, dB_bool, dS_slice, dP_ptr, dT_tup, dA_agg, dStr_str, dF_f, dC_c, dM_m, optP_some, ga0, ga1, ga2, ga3, ga4, cond_true, cond_false, chk_true, Bool.not_true, Bool.not_false, Option.isNone_none, Option.isNone_some, List.toList_toArray]
  rw [hr]
  exact Ret.mk ⟨rfl, x1⟩

/-! ### Put -/
theorem put1_good {d : Dev} (h : Good d) {i : Int} {s : List Int} (hi : 0 ≤ i ∧ i < (d.now.length : Int)) (hs : Sec s) : Good (put1 d i s) := by
  refine ⟨?_, ?_, h.sure, ?_, ?_, h.after⟩
  · simp only [put1, List.length_set]; exact h.len
  · simp only [put1, List.length_set]; exact h.few
  · intro t ht
    rcases List.mem_or_eq_of_mem_set ht with ht | rfl
    · exact h.now t ht
    · exact hs
  · intro p hp
    simp only [put1, List.length_set] at hp ⊢
    rcases List.mem_append.1 hp with hp | hp
    · exact h.loose p hp
    · simp only [List.mem_singleton] at hp
      subst hp
      exact ⟨hi.1, hi.2, hs⟩
theorem looseCells_push (l : List (Int × List Int)) (p : Int × List Int) : looseCells l ++ looseRow p = looseCells (l ++ [p]) := by simp [looseCells]
theorem secs_set {l : List (List Int)} {i : Nat} {s : List Int} (h : ∀ s ∈ l, Sec s) (hi : i < l.length) (hs : Sec s) : (secs l).take (i * 64) ++ u8s s ++ (secs l).drop (i * 64 + (u8s s).length) = secs (l.set i s) := by
  unfold secs
  rw [flatten_set _ i (u8s s) (secs_len h) (by simpa using hi) (by rw [u8s_len]; exact hs.1), List.map_set]
theorem row_one (i : Int) (s : List Int) : ∀ y ∈ looseRow (i, s), y.oneCell' = true := by
  intro y hy
  rcases List.mem_cons.1 hy with rfl | hy
  · rfl
  · exact u8s_one s y hy

theorem Put_step {w : World} {B pd b1 : Nat} {d : Dev} {D : Nat → Prop} (h : DevIs w B pd d D) (hg : Good d) (hB : B ≤ w.heap.size) (hq : Own w 0 24 1 (some ⟨b1, 0, none⟩) 1 1 [.pointer (some ⟨pd, 0, none⟩)]) {lp : Option Addr} {n c : Nat} {ws : List Wt} (hn : ws.length = n) (hl : CellsK w D lp (ws.map Wt.cells).flatten) (hb : n ≤ 1000000000) (hcnt : d.loose.length ≤ 1000000000) {t : Int} (ht : 0 ≤ t ∧ t < (n : Int)) {x : Wt} (hx : ws[t.toNat]? = some x) (hok : WtOk w D x) (hi : 0 ≤ x.i ∧ x.i < (d.now.length : Int)) (hlen : x.bs.length = 64)
    {S : Value → World → Prop} {C1 : Nat → Option Addr → Nat → Nat → Int → Int → World → Prop}
    (hoff : ∀ w', (spend d).off = true → DevIs w' B pd (spend d) D → Kp w w' D → S (.int .i64 10) w')
    (hon : ∀ w' D', (spend d).off = false → DevIs w' B pd (put1 (spend d) x.i x.bs) D' → Kp w w' D → (∀ i, D' i → D i ∨ w.heap.size ≤ i) → C1 b1 lp n c (n : Int) (t + 1) w') :
    basin_Basin_Put.b1 b1 lp n c (n : Int) t w (Ret S) C1 := by
  unfold basin_Basin_Put.b1
  obtain ⟨a, rfl, hcell⟩ := row2 hl.now hx
  refine cond_of (fun _ => ?_) (fun hc => by have := of_decide_eq_false hc; omega)
  refine chkd_of ht.1 (chkd_of ht.2 ⟨x.cells.toArray, rfl, hcell, ?_⟩)
  rintro b4 w8 rfl rfl
  have o8 := Own.new (w := w) [.int .i64 0, .slice none 0 0] 32
  have x8 := Ex.alloc w (.cells #[.int .i64 0, .slice none 0 0] 32)
  generalize w.alloc (.cells #[.int .i64 0, .slice none 0 0] 32) = w8 at o8 x8 ⊢
  refine chkd_of rfl ?_
  try dsimp only [dI_i64, dI_u8, dI_u16, dI_u32, dB_bool, dS_slice, dP_ptr, dT_tup, dA_agg, dStr_str, dF_f, dC_c, dM_m, optP_some, ga0, ga1, ga2, ga3, ga4, cond_true, cond_false, chk_true, Bool.not_true, Bool.not_false, Option.isNone_none, Option.isNone_some, List.toList_toArray]
  refine o8.put (by rfl) two_one fun w9 k9 o9 => ?_
  have x9 : Ex w w9 := x8.then k9 fun i hi => by rw [hi]; exact Nat.le_refl _
  have h9 := h.ex x9
  have o9 : Own w9 w.heap.size 32 2 (some ⟨w.heap.size, 0, none⟩) 1 1 [.int .i64 x.i, .slice x.p x.n x.c] := o9
  refine ⟨_, (hq.ex x9).at (j := 0) rfl, ?_⟩
  refine callP.use (spend_spec h9 hg) ?_
  rintro _ w10 ⟨rfl, h10, k10⟩
  try dsimp only [dI_i64, dI_u8, dI_u16, dI_u32, dB_bool, dS_slice, dP_ptr, dT_tup, dA_agg, dStr_str, dF_f, dC_c, dM_m, optP_some, ga0, ga1, ga2, ga3, ga4, cond_true, cond_false, chk_true, Bool.not_true, Bool.not_false, Option.isNone_none, Option.isNone_some, List.toList_toArray]
  have K10 : Kp w w10 D := (x9.kp _).tr k10
  refine cond_of (fun hf => Ret.mk (hoff w10 hf h10 K10)) (fun hf => ?_)
  have hq10 := (off_dev h9 k10 (hq.ex x9) (by decide) (by decide) (by decide)).ex (Ex.drew w10)
  have o10 := (off_dev h9 k10 o9 (by decide) (by decide) (by decide)).ex (Ex.drew w10)
  have K10 : Kp w w10.drew D := K10.tr ((Ex.drew w10).kp _)
  have h10 := h10.ex (Ex.drew w10)
  generalize w10.drew = w10 at hq10 o10 K10 h10 ⊢
  have hsm := spend_same d
  have hg' := spend_good hg
  generalize hd' : spend d = d' at h10 hsm hg' hf hon
  rw [← hsm.2.1] at hi
  rw [← hsm.2.2] at hcnt
  clear hoff
  obtain ⟨bs, bn, pl, ml, h10, hD⟩ := h10
  refine ⟨_, hq10.at (j := 0) rfl, ?_⟩
  try dsimp only [dI_i64, dI_u8, dI_u16, dI_u32, dB_bool, dS_slice, dP_ptr, dT_tup, dA_agg, dStr_str, dF_f, dC_c, dM_m, optP_some, ga0, ga1, ga2, ga3, ga4, cond_true, cond_false, chk_true, Bool.not_true, Bool.not_false, Option.isNone_none, Option.isNone_some, List.toList_toArray]
  simp only [addr1]
  refine ⟨_, _, _, h10.cell.at (j := 1) rfl, _, o10.at (j := 0) rfl, _, _, _, o10.at (j := 1) rfl, ?_⟩
  have hn64 : x.n = 64 := by rw [← hok.len]; exact hlen
  rw [hn64]
  refine chkd_of (by omega) ?_
  have hdata : ∀ w', Kp w w' D → ∃ a3, x.p = some a3 ∧ CellsAt w' a3 (u8s x.bs) := fun w' k => by
    have hc := hok.cells w' k
    obtain ⟨b, hb0, _⟩ := getE (l := x.bs) (i := 0) (by omega)
    obtain ⟨a3, ha3, _⟩ := hc.one (v := .int .u8 b) (by unfold u8s; rw [List.getElem?_map, hb0]; rfl)
    rw [ha3] at hc
    exact ⟨a3, ha3, hc⟩
  obtain ⟨a3, ha3, hc3⟩ := hdata _ K10
  have hxs : Sec x.bs := ⟨hlen, hok.wf⟩
  refine optP_of ha3 ⟨(u8s x.bs).toArray, by simp [u8s_len, hlen], hc3, chkd_of hi.1 (chkd_of hi.2 (chkd_of (by simp [u8s_len, hlen]) ?_))⟩
  have hilt : x.i.toNat < d'.now.length := by omega
  obtain ⟨q1, q2, q3⟩ := h10.no.writes (x.i.toNat * 64) (u8s x.bs) (by rw [u8s_len, hlen]; omega) (u8s_one _)
  refine ⟨q1, fun w12 hw12 => ?_⟩
  have e12 : setO w10 (some ⟨bn, 0, none⟩) (x.i.toNat * 64) (u8s x.bs) = w12 := by
    rw [hw12, add_block, add_off]
    rfl
  rw [e12, secs_set hg'.now hilt hxs] at q2
  rw [e12] at q3
  have q3 : Kp w10 w12 fun i => i = bn := q3.mono fun i _ ⟨x, hx, hi⟩ => by cases hx; exact hi.symm
  clear e12 q1 hw12
  have tbn : ∀ i, i = bn → Typed w10 66 i := fun i hi => hi ▸ (h10.no.typed rfl).1
  have hq12 := (hq10.away q3 66 tbn (by decide)).ex (Ex.drew w12)
  have o12 := (o10.away q3 66 tbn (by decide)).ex (Ex.drew w12)
  have cell12 := (h10.cell.away q3 66 tbn (by decide)).ex (Ex.drew w12)
  have su12 := (h10.su.kp q3 fun y hy hm => by cases hy; exact h10.ne hm).ex (Ex.drew w12)
  have lo12 := (h10.lo.away q3 66 tbn (by decide)).ex (Ex.drew w12)
  have no12 := q2.ex (Ex.drew w12)
  have K12 : Kp w w12.drew D := K10.tr ((q3.mono fun i _ hi => (hD i).2 (.inr (.inr (.inl hi)))).tr ((Ex.drew w12).kp _))
  clear q2 q3 tbn hq10 o10 hc3 K10 ha3
  generalize w12.drew = w12 at hq12 o12 cell12 su12 lo12 no12 K12 ⊢
  refine ⟨_, hq12.at (j := 0) rfl, _, hq12.at (j := 0) rfl, ?_⟩
  try dsimp only [dI_i64, dI_u8, dI_u16, dI_u32, dB_bool, dS_slice, dP_ptr, dT_tup, dA_agg, dStr_str, dF_f, dC_c, dM_m, optP_some, ga0, ga1, ga2, ga3, ga4, cond_true, cond_false, chk_true, Bool.not_true, Bool.not_false, Option.isNone_none, Option.isNone_some, List.toList_toArray]
  simp only [addr1]
  refine ⟨_, _, _, cell12.at (j := 2) rfl, _, o12.at (j := 0) rfl, _, _, _, o12.at (j := 1) rfl, ?_⟩
  rw [hn64]
  refine chkd_of (by omega) ?_
  obtain ⟨a6, ha6, hc6⟩ := hdata _ K12
  refine optP_of ha6 ⟨(u8s x.bs).toArray, by simp [u8s_len, hlen], hc6, optP_of (fill_head 64 _ (u8s x.bs).toArray (.int .i64 x.i) (by rfl) rfl (by simp [u8s_len, hlen])) ?_⟩
  refine optP_of (fill_whole 65 _ _ (by rw [size_madeCells]) (by simp [u8s_len, hlen])) ?_
  rintro b6 w13 rfl rfl
  have x13 := Ex.alloc w12 (.cells (looseRow (x.i, x.bs)).toArray 68)
  have c13 : CellsO (w12.alloc (.cells (looseRow (x.i, x.bs)).toArray 68)) (some ⟨w12.heap.size, 0, none⟩) (looseRow (x.i, x.bs)) := CellsO.alloc _ 68
  have er : (Value.int .i64 x.i :: (u8s x.bs).toArray.toList).toArray = (looseRow (x.i, x.bs)).toArray := rfl
  rw [er]
  generalize w12.alloc (.cells (looseRow (x.i, x.bs)).toArray 68) = w13 at x13 c13 ⊢
  have cell13 := cell12.ex x13
  have hq13 := hq12.ex x13
  have lo13 := lo12.ex x13
  have hB12 : B ≤ w12.heap.size := Nat.le_trans hB K12.size
  refine ⟨cell13.at (j := 2) rfl, hq13.at (j := 0) rfl, hq13.at (j := 0) rfl, ?_⟩
  refine appP_own2 lo13 (Nat.le_trans hB12 x13.size) (looseRow (x.i, x.bs)) c13 (by simp [looseRow, u8s_len, hlen]) (row_one _ _) (by rfl) (by omega) (by omega) (fun p3 c3 w14 o14 k14 hp3 => ?_)
  have t68 : ∀ i, (∃ y, pl = some y ∧ y.block = i) → Typed w13 68 i := fun i ⟨y, hy, hi⟩ => hi ▸ (lo13.typed hy).1
  have cell14 := cell13.away k14 68 t68 (by decide)
  have hq14 := hq13.away k14 68 t68 (by decide)
  have su14 := (su12.ex x13).away k14 68 t68 (by decide)
  have no14 := (no12.ex x13).away k14 68 t68 (by decide)
  have K14 : Kp w w14 D := (K12.tr (x13.kp _)).tr (k14.mono fun i _ hi => (hD i).2 (.inr (.inr (.inr hi))))
  refine ⟨hq14.at (j := 0) rfl, ?_⟩
  refine cell14.put1 (j := 2) (by show 2 < 1 * 5; omega) rfl fun w15 k15 cell15 => ?_
  have t62 : ∀ i, i = pd → Typed w14 62 i := fun i hi => hi ▸ (cell14.typed rfl).1
  have K15 : Kp w w15 D := K14.tr (k15.mono fun i _ hi => (hD i).2 (.inl hi))
  rw [w64 (by omega) (by omega)]
  rw [looseCells_push] at o14
  have hdlen : (put1 d' x.i x.bs).now.length = d'.now.length := by simp [put1]
  have hllen : (put1 d' x.i x.bs).loose.length = d'.loose.length + 1 := by simp [put1]
  refine hon w15 (Its pd bs bn p3) hf ⟨bs, bn, p3, c3, ⟨?_, ?_, ?_, ?_, h10.ne⟩, fun i => Iff.rfl⟩ K15 fun i hi => ?_
  · rw [hdlen, hllen]
    exact cell15
  · rw [hdlen]
    exact su14.away k15 62 t62 (by decide)
  · rw [hdlen]
    exact no14.away k15 62 t62 (by decide)
  · rw [hllen]
    exact o14.away k15 62 t62 (by decide)
  · rcases hi with hi | hi | hi | ⟨y, hy, hi⟩
    · exact .inl ((hD i).2 (.inl hi))
    · exact .inl ((hD i).2 (.inr (.inl hi)))
    · exact .inl ((hD i).2 (.inr (.inr (.inl hi))))
    · rcases hp3 with hp3 | hp3
      · rw [hp3] at hy
        exact .inl ((hD i).2 (.inr (.inr (.inr ⟨y, hy, hi⟩))))
      · have := hp3 y hy
        have := K12.size
        have := x13.size
        exact .inr (by omega)
end Go.Proofs.Yticdeknmeafjcaa.G
