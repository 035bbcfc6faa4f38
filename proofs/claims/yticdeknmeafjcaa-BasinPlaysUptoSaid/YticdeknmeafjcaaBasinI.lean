/-
  The plain device of the law's other program: its memory, and what its functions do.
-/
import Derived.Test.YticdeknmeafjcaaBasinF
namespace Go.Proofs.Yticdeknmeafjcaa.G
open Go.Dec Go.RowKit
set_option linter.unusedVariables false
set_option linter.unusedSimpArgs false

def str (s : List Int) : Value := .string (strOf s)
def strs (l : List (List Int)) : List Value := l.map str
def textRow (p : Int × List Int) : List Value := [.int .i64 p.1, str p.2]
def textCells (l : List (Int × List Int)) : List Value := (l.map textRow).flatten
theorem str_one (s : List Int) : (str s).oneCell' = true := rfl
theorem textRow_one (p : Int × List Int) : ∀ y ∈ textRow p, y.oneCell' = true := by
  intro y hy
  simp only [textRow, List.mem_cons, List.not_mem_nil, or_false] at hy
  rcases hy with rfl | rfl <;> rfl
theorem textCells_push (l : List (Int × List Int)) (p : Int × List Int) : textCells l ++ textRow p = textCells (l ++ [p]) := by simp [textCells]
theorem text_rows (l : List (Int × List Int)) : ∀ r ∈ l.map textRow, r.length = 2 := by
  intro r hr
  obtain ⟨p, _, rfl⟩ := List.mem_map.1 hr
  rfl

structure RefAt (w : World) (B pr : Nat) (d : Dev) (left : Int) (ps pl : Option Addr) (cs cl : Nat) : Prop where
  cell : Own w B 54 4 (some ⟨pr, 0, none⟩) 1 1 [.slice ps d.sure.length cs, .slice pl d.loose.length cl, .int .i64 left, .bool d.off]
  su : Own w B 9 1 ps d.sure.length cs (strs d.sure)
  lo : Own w B 72 2 pl d.loose.length cl (textCells d.loose)
def RIts (pr : Nat) (ps pl : Option Addr) (i : Nat) : Prop := i = pr ∨ (∃ x, ps = some x ∧ x.block = i) ∨ ∃ x, pl = some x ∧ x.block = i
def Lf (d : Dev) (left : Int) : Prop := d.after = max2 left (-1) ∧ left ≤ 9223372036854775807
def Ref (w : World) (B pr : Nat) (d : Dev) (D : Nat → Prop) : Prop := ∃ left ps pl cs cl, Lf d left ∧ RefAt w B pr d left ps pl cs cl ∧ ∀ i, D i ↔ RIts pr ps pl i
theorem RefAt.kp {w w' : World} {S : Nat → Prop} {B pr : Nat} {d : Dev} {left : Int} {ps pl : Option Addr} {cs cl : Nat} (h : RefAt w B pr d left ps pl cs cl) (hk : Kp w w' S) (hs : ∀ i, RIts pr ps pl i → ¬ S i) : RefAt w' B pr d left ps pl cs cl :=
  ⟨h.cell.kp hk fun x hx => by cases hx; exact hs _ (.inl rfl), h.su.kp hk fun x hx => hs _ (.inr (.inl ⟨x, hx, rfl⟩)), h.lo.kp hk fun x hx => hs _ (.inr (.inr ⟨x, hx, rfl⟩))⟩
theorem RefAt.ex {w w' : World} {B pr : Nat} {d : Dev} {left : Int} {ps pl : Option Addr} {cs cl : Nat} (h : RefAt w B pr d left ps pl cs cl) (hk : Ex w w') : RefAt w' B pr d left ps pl cs cl := h.kp hk fun _ _ h => h
theorem RefAt.typed {w : World} {B pr : Nat} {d : Dev} {left : Int} {ps pl : Option Addr} {cs cl : Nat} (h : RefAt w B pr d left ps pl cs cl) {i : Nat} (hi : RIts pr ps pl i) : (Typed w 54 i ∨ Typed w 9 i ∨ Typed w 72 i) ∧ B ≤ i ∧ i < w.heap.size := by
  rcases hi with rfl | ⟨x, hx, rfl⟩ | ⟨x, hx, rfl⟩
  · exact ⟨.inl (h.cell.typed rfl).1, (h.cell.typed rfl).2⟩
  · exact ⟨.inr (.inl (h.su.typed hx).1), (h.su.typed hx).2⟩
  · exact ⟨.inr (.inr (h.lo.typed hx).1), (h.lo.typed hx).2⟩
theorem Ref.typed {w : World} {B pr : Nat} {d : Dev} {D : Nat → Prop} (h : Ref w B pr d D) {i : Nat} (hi : D i) : (Typed w 54 i ∨ Typed w 9 i ∨ Typed w 72 i) ∧ B ≤ i ∧ i < w.heap.size := by
  obtain ⟨left, ps, pl, cs, cl, _, h, hD⟩ := h
  exact h.typed ((hD i).1 hi)
theorem Ref.kp {w w' : World} {S : Nat → Prop} {B pr : Nat} {d : Dev} {D : Nat → Prop} (h : Ref w B pr d D) (hk : Kp w w' S) (hs : ∀ i, D i → ¬ S i) : Ref w' B pr d D := by
  obtain ⟨left, ps, pl, cs, cl, hl, h, hD⟩ := h
  exact ⟨left, ps, pl, cs, cl, hl, h.kp hk fun i hi => hs i ((hD i).2 hi), hD⟩
theorem Ref.ex {w w' : World} {B pr : Nat} {d : Dev} {D : Nat → Prop} (h : Ref w B pr d D) (hk : Ex w w') : Ref w' B pr d D := h.kp hk fun _ _ h => h
theorem off_ref {w w' : World} {B B' pr : Nat} {d : Dev} {D : Nat → Prop} (h : Ref w B pr d D) (hk : Kp w w' D) {e : TypeId} {sz : Nat} {p : Option Addr} {n c : Nat} {xs : List Value} (o : Own w B' e sz p n c xs) (h1 : e ≠ 54) (h2 : e ≠ 9) (h3 : e ≠ 72) : Own w' B' e sz p n c xs :=
  o.kp hk fun x hx hm => by
    have ht := (o.typed hx).1
    rcases (h.typed hm).1 with hm | hm | hm
    · exact ht.ne hm h1 rfl
    · exact ht.ne hm h2 rfl
    · exact ht.ne hm h3 rfl
/-- the struct alone is written -/
theorem RefAt.field {w w' : World} {B pr : Nat} {d : Dev} {left : Int} {ps pl : Option Addr} {cs cl : Nat} (h : RefAt w B pr d left ps pl cs cl) (k : Kp w w' fun i => i = pr) {a : Int} {f : Bool} (d' : Dev) (e1 : d'.sure = d.sure) (e2 : d'.loose = d.loose) (e3 : d'.off = f)
    (o : Own w' B 54 4 (some ⟨pr, 0, none⟩) 1 1 [.slice ps d.sure.length cs, .slice pl d.loose.length cl, .int .i64 a, .bool f]) : RefAt w' B pr d' a ps pl cs cl := by
  have t : ∀ i, i = pr → Typed w 54 i := fun i hi => hi ▸ (h.cell.typed rfl).1
  refine ⟨?_, ?_, ?_⟩
  · rw [e1, e2, e3]; exact o
  · rw [e1]; exact h.su.away k 54 t (by decide)
  · rw [e2]; exact h.lo.away k 54 t (by decide)
def AfterR (w : World) (B pr : Nat) (d : Dev) (D : Nat → Prop) (w' : World) : Prop := ∃ D', Ref w' B pr d D' ∧ Kp w w' D ∧ ∀ i, D' i → D i ∨ w.heap.size ≤ i

/-! ### spend -/
theorem spendR_spec {w : World} {B pr : Nat} {d : Dev} {D : Nat → Prop} (h : Ref w B pr d D) : stopcockref05_Basin_spend.C (some ⟨pr, 0, none⟩) w (Ret fun v w' => v = .bool (spend d).off ∧ Ref w' B pr (spend d) D ∧ Kp w w' D) := by
  apply stopcockref05_Basin_spend.ok
  unfold stopcockref05_Basin_spend.main
  obtain ⟨left, ps, pl, cs, cl, ⟨l1, l2⟩, h, hD⟩ := h
  have hpr : ∀ i, i = pr → D i := fun i hi => (hD i).2 (.inl hi)
  try dsimp only [dI_i64, dI_u8, dI_u16, dI_u32, dB_bool, dS_slice, dP_ptr, dT_tup, dA_agg, dStr_str, dF_f, dC_c, dM_m, optP_some, ga0, ga1, ga2, ga3, ga4, cond_true, cond_false, chk_true, Bool.not_true, Bool.not_false, Option.isNone_none, Option.isNone_some, List.toList_toArray]
  simp only [addr1]
  refine ⟨_, h.cell.at (j := 2) rfl, cond_of (fun hc => ?_) (fun hc => ?_)⟩
  · have hc : left = 0 := by simpa using hc
    subst hc
    have l1 : d.after = 0 := l1
    have hs : spend d = { d with off := true } := by unfold spend; rw [if_pos l1]
    refine h.cell.put1 (j := 3) (by show 3 < 1 * 4; omega) rfl fun w1 k1 o1 => ?_
    unfold stopcockref05_Basin_spend.k1
    try dsimp only [dI_i64, dI_u8, dI_u16, dI_u32, dB_bool, dS_slice, dP_ptr, dT_tup, dA_agg, dStr_str, dF_f, dC_c, dM_m, optP_some, ga0, ga1, ga2, ga3, ga4, cond_true, cond_false, chk_true, Bool.not_true, Bool.not_false, Option.isNone_none, Option.isNone_some, List.toList_toArray]
    simp only [addr1]
    refine ⟨_, o1.at (j := 2) rfl, ?_⟩
    rw [condd_neg (by omega)]
    refine ⟨_, o1.at (j := 3) rfl, Ret.mk ⟨by rw [hs], ⟨0, ps, pl, cs, cl, ⟨by rw [hs]; exact l1, by omega⟩, h.field k1 _ (by rw [hs]) (by rw [hs]) (by rw [hs]) o1, hD⟩, k1.mono fun i _ hi => hpr i hi⟩⟩
  · have hc : ¬ left = 0 := by simpa using hc
    unfold stopcockref05_Basin_spend.k1
    try dsimp only [dI_i64, dI_u8, dI_u16, dI_u32, dB_bool, dS_slice, dP_ptr, dT_tup, dA_agg, dStr_str, dF_f, dC_c, dM_m, optP_some, ga0, ga1, ga2, ga3, ga4, cond_true, cond_false, chk_true, Bool.not_true, Bool.not_false, Option.isNone_none, Option.isNone_some, List.toList_toArray]
    simp only [addr1]
    refine ⟨_, h.cell.at (j := 2) rfl, cond_of (fun hc2 => ?_) (fun hc2 => ?_)⟩
    · have hc2 := of_decide_eq_true hc2
      have l1 : d.after = left := by rw [l1]; unfold max2; rw [if_neg (by omega)]
      have hs : spend d = { d with after := d.after - 1 } := by unfold spend; rw [if_neg (by omega), if_pos (by omega)]
      refine ⟨_, h.cell.at (j := 2) rfl, ?_⟩
      rw [w64 (by omega) (by omega)]
      refine h.cell.put1 (j := 2) (by show 2 < 1 * 4; omega) rfl fun w1 k1 o1 => ?_
      exact ⟨_, o1.at (j := 3) rfl, Ret.mk ⟨by rw [hs], ⟨left - 1, ps, pl, cs, cl, ⟨by rw [hs]; show d.after - 1 = _; unfold max2; rw [if_neg (by omega)]; omega, by omega⟩, h.field k1 _ (by rw [hs]) (by rw [hs]) (by rw [hs]) o1, hD⟩, k1.mono fun i _ hi => hpr i hi⟩⟩
    · have hc2 := of_decide_eq_false hc2
      have l1' : d.after = -1 := by rw [l1]; unfold max2; split <;> omega
      have hs : spend d = d := by unfold spend; rw [if_neg (by omega), if_neg (by omega)]
      refine ⟨_, h.cell.at (j := 3) rfl, Ret.mk ⟨by rw [hs], ⟨left, ps, pl, cs, cl, by rw [hs]; exact ⟨l1, l2⟩, by rw [hs]; exact h, hD⟩, Kp.refl _ _⟩⟩

/-! ### New -/
theorem NewR_spec (n : Int) (w : World) (hn : 0 ≤ n ∧ n ≤ 424) : stopcockref05_New.C n w (Ret fun v w' => ∃ pr D, v = .pointer (some ⟨pr, 0, none⟩) ∧ Ex w w' ∧ Ref w' w.heap.size pr (fresh n.toNat) D) := by
  apply stopcockref05_New.ok
  unfold stopcockref05_New.main
  rintro b1 w1 rfl rfl
  have o1 := Own.new (w := w) [.slice none 0 0, .slice none 0 0, .int .i64 (-1), .bool false] 54
  have x1 := Ex.alloc w (.cells #[.slice none 0 0, .slice none 0 0, .int .i64 (-1), .bool false] 54)
  generalize w.alloc (.cells #[.slice none 0 0, .slice none 0 0, .int .i64 (-1), .bool false] 54) = w1 at o1 x1 ⊢
  refine ⟨fun t0 t3 t4 w' => n = t0 ∧ t3 = w.heap.size ∧ 0 ≤ t4 ∧ t4 ≤ n ∧ Ex w w' ∧ ∃ ps cs, Own w' w.heap.size 54 4 (some ⟨w.heap.size, 0, none⟩) 1 1 [.slice ps t4.toNat cs, .slice none 0 0, .int .i64 (-1), .bool false] ∧ Own w' w.heap.size 9 1 ps t4.toNat cs (strs (List.replicate t4.toNat zsec)),
    fun t0 t3 t4 w' => (n - t4).toNat, ?_, ?_⟩
  · exact ⟨rfl, rfl, by omega, by omega, x1, none, 0, o1, Own.nil _ _ _ _⟩
  clear o1 x1
  rintro _ _ t w2 ⟨rfl, rfl, h0, h1, x2, ps, cs, o2, s2⟩
  unfold stopcockref05_New.b1
  refine cond_of (fun hc => ?_) (fun hc => ?_)
  · have hc := of_decide_eq_true hc
    have hdr := Ex.drew w2
    refine ⟨_, _, _, (o2.ex hdr).at (j := 0) rfl, ?_⟩
    rintro b3 w3 rfl rfl
    rw [madeCells_int]
    have c3 := CellsO.alloc (w := w2.drew) ((List.replicate (64 * 1) (0 : Int)).map (Value.int .u8)) 5
    have x3 := Ex.alloc w2.drew (.cells ((List.replicate (64 * 1) (0 : Int)).map (Value.int .u8)).toArray 5)
    generalize w2.drew.alloc (.cells ((List.replicate (64 * 1) (0 : Int)).map (Value.int .u8)).toArray 5) = w3 at c3 x3 ⊢
    have X3 := hdr.trans x3
    refine ⟨(o2.ex X3).at (j := 0) rfl, List.replicate (64 * 1) (0 : Int), by simp, c3, ?_⟩
    rintro b4 w4 rfl rfl
    have c4 : CellsO (w3.alloc (.cells #[.string (strOf (List.replicate (64 * 1) (0 : Int)))] 9)) (some ⟨w3.heap.size, 0, none⟩) [str zsec] := CellsO.alloc [str zsec] 9
    have x4 := Ex.alloc w3 (.cells #[.string (strOf (List.replicate (64 * 1) (0 : Int)))] 9)
    generalize w3.alloc (.cells #[.string (strOf (List.replicate (64 * 1) (0 : Int)))] 9) = w4 at c4 x4 ⊢
    have X4 := X3.trans x4
    refine ⟨(o2.ex X4).at (j := 0) rfl, ?_⟩
    refine appP_own (s2.ex X4) (Nat.le_trans x2.size X4.size) [str zsec] c4 rfl (by simp [Value.oneCell', str]) rfl (by omega) (by omega) fun p' c' w5 o' k' => ?_
    have t9 : ∀ i, (∃ x, ps = some x ∧ x.block = i) → Typed w4 9 i := fun i ⟨x, hx, hi⟩ => hi ▸ ((s2.ex X4).typed hx).1
    have g9 : ∀ i, (∃ x, ps = some x ∧ x.block = i) → w.heap.size ≤ i := fun i ⟨x, hx, hi⟩ => hi ▸ ((s2.ex X4).typed hx).2.1
    have o5 := (o2.ex X4).away k' 9 t9 (by decide)
    refine o5.put1 (j := 0) (by show 0 < 1 * 4; omega) rfl fun w6 k6 o6 => ?_
    have t54 : ∀ i, i = w.heap.size → Typed w5 54 i := fun i hi => hi ▸ (o5.typed rfl).1
    rw [w64 (by omega) (by omega)]
    have e1 : (t + 1).toNat = t.toNat + 1 := by omega
    have es : strs (List.replicate t.toNat zsec) ++ [str zsec] = strs (List.replicate (t.toNat + 1) zsec) := by
      unfold strs
      rw [List.replicate_succ', List.map_append]
      rfl
    rw [es] at o'
    refine ⟨⟨rfl, rfl, by omega, by omega, ((x2.trans X4).then k' g9).then k6 fun i hi => by rw [hi]; exact Nat.le_refl _, p', c', ?_, ?_⟩, by ((try dsimp only); omega)⟩
    · rw [e1]; exact o6
    · rw [e1]; exact o'.away k6 54 t54 (by decide)
  · have hc := of_decide_eq_false hc
    have : t = n := by omega
    subst this
    refine Ret.mk ⟨_, _, rfl, x2, -1, ps, none, cs, 0, ⟨rfl, by omega⟩, ⟨?_, ?_, Own.nil _ _ _ _⟩, fun i => Iff.rfl⟩
    · simpa [fresh] using o2
    · simpa [fresh] using s2

/-! ### has -/
theorem hasR_spec {w : World} {p : Option Addr} {n c : Nat} {xs : List Int} (hl : CellsO w p (xs.map (Value.int .i64))) (hn : xs.length = n) (hb : n ≤ 1000000000000000000) (k : Int) : stopcockref05_has.C p n c k w (Ret fun v w' => v = .bool (has xs k) ∧ w' = w) := by
  apply stopcockref05_has.ok
  unfold stopcockref05_has.main
  refine ⟨fun t0p t0n t0c t1 t5 w' => p = t0p ∧ n = t0n ∧ c = t0c ∧ k = t1 ∧ 0 ≤ t5 ∧ t5 ≤ (n : Int) ∧ w = w' ∧ ∀ (j : Nat) x, j < t5.toNat → xs[j]? = some x → (k == x) = false, fun t0p t0n t0c t1 t5 w' => ((n : Int) - t5).toNat, ?_, ?_⟩
  · exact ⟨rfl, rfl, rfl, rfl, by omega, by omega, rfl, fun j x hj => by simp at hj⟩
  rintro _ _ _ _ t w1 ⟨rfl, rfl, rfl, rfl, h0, h1, rfl, hno⟩
  unfold stopcockref05_has.b1
  refine cond_of (fun hc => ?_) (fun hc => ?_)
  · have hc := of_decide_eq_true hc
    obtain ⟨x, hx, hxm, _⟩ := getE (l := xs) (i := t.toNat) (by omega)
    obtain ⟨a, rfl, hcell⟩ := hl.many (j := t.toNat) (v := .int .i64 x) (by rw [List.getElem?_map, hx]; rfl)
    rw [← Nat.mul_one t.toNat] at hcell
    refine chkd_of h0 (chkd_of hc ⟨x, hcell, ?_⟩)
    refine cond_of (fun hy => ?_) (fun hy => ?_)
    · have hy : x = k := by simpa using hy
      exact Ret.mk ⟨by rw [has, any_at hx (by simp [hy])], rfl⟩
    · have hy : ¬ x = k := by simpa using hy
      rw [w64 (by omega) (by omega)]
      refine ⟨⟨rfl, rfl, rfl, rfl, by omega, by omega, rfl, fun j y hj hjy => ?_⟩, by ((try dsimp only); omega)⟩
      by_cases hjt : j < t.toNat
      · exact hno j y hjt hjy
      · have : j = t.toNat := by omega
        subst this
        rw [hx] at hjy
        cases hjy
        simpa using fun h => hy h.symm
  · have hc := of_decide_eq_false hc
    exact Ret.mk ⟨by rw [has, any_none fun j x hj hx => hno j x (by omega) hx], rfl⟩

/-! ### settle -/
theorem settleR_spec {w : World} {B pr : Nat} {d : Dev} {left : Int} {ps pl : Option Addr} {cs cl : Nat} (h : RefAt w B pr d left ps pl cs cl) (hg : Good d) {D : Nat → Prop} (hD : ∀ i, D i ↔ RIts pr ps pl i) {all : Bool} {kp : Option Addr} {n c : Nat} {keep : List Int} (hk : CellsK w D kp (keep.map (Value.int .i64))) (hn : keep.length = n) (hb : n ≤ 1000000000000000000) (hcnt : d.loose.length ≤ 1000000000000) (K : List Int) (hK : ∀ (j : Nat), j < d.loose.length → (all || has keep (j : Int)) = has K (j : Int)) :
    stopcockref05_Basin_settle.C (some ⟨pr, 0, none⟩) all kp n c w (Ret fun v w' => v = .tuple #[] ∧ RefAt w' B pr { d with sure := settle K d.sure d.loose 0, loose := [] } left ps none cs 0 ∧ Kp w w' D) := by
  apply stopcockref05_Basin_settle.ok
  unfold stopcockref05_Basin_settle.main
  rintro b1 w1 rfl rfl
  have o1 := Own.new (w := w) [.bool all, .slice kp n c] 75
  have x1 := Ex.alloc w (.cells #[.bool all, .slice kp n c] 75)
  generalize w.alloc (.cells #[.bool all, .slice kp n c] 75) = w1 at o1 x1 ⊢
  refine ⟨fun t0 t3 t4 w' => t0 = some ⟨pr, 0, none⟩ ∧ t3 = w.heap.size ∧ 0 ≤ t4 ∧ t4 ≤ (d.loose.length : Int) ∧ Kp w w' D ∧ Own w' w.heap.size 75 2 (some ⟨w.heap.size, 0, none⟩) 1 1 [.bool all, .slice kp n c] ∧
    ∃ s, RefAt w' B pr { d with sure := s } left ps pl cs cl ∧ s.length = d.sure.length ∧ settle K s (d.loose.drop t4.toNat) t4 = settle K d.sure d.loose 0, fun t0 t3 t4 w' => ((d.loose.length : Int) - t4).toNat, ?_, ?_⟩
  · exact ⟨rfl, rfl, by omega, by omega, x1.kp _, o1, d.sure, h.ex x1, rfl, rfl⟩
  clear o1 x1
  rintro _ _ t w2 ⟨rfl, rfl, h0, h1, K2, o2, s, a2, hsl, hset⟩
  unfold stopcockref05_Basin_settle.b1
  try dsimp only [dI_i64, dI_u8, dI_u16, dI_u32, dB_bool, dS_slice, dP_ptr, dT_tup, dA_agg, dStr_str, dF_f, dC_c, dM_m, optP_some, ga0, ga1, ga2, ga3, ga4, cond_true, cond_false, chk_true, Bool.not_true, Bool.not_false, Option.isNone_none, Option.isNone_some, List.toList_toArray]
  simp only [addr1]
  refine ⟨_, _, _, a2.cell.at (j := 1) rfl, cond_of (fun hc => ?_) (fun hc => ?_)⟩
  · have hc := of_decide_eq_true hc
    dsimp only at hc
    obtain ⟨x, hx, hxm, hdrop⟩ := getE (l := d.loose) (i := t.toNat) (by omega)
    have hgx := hg.loose x hxm
    have hKt := hK t.toNat (by omega)
    rw [show ((t.toNat : Nat) : Int) = t by omega] at hKt
    rw [hdrop, settle_cons] at hset
    have kk : ∀ (bb : Bool) (w2 : World), Kp w w2 D → Own w2 w.heap.size 75 2 (some ⟨w.heap.size, 0, none⟩) 1 1 [.bool all, .slice kp n c] → RefAt w2 B pr { d with sure := s } left ps pl cs cl → bb = has K t →
      stopcockref05_Basin_settle.k1 (some ⟨pr, 0, none⟩) w.heap.size t bb w2 (Ret fun v w' => v = .tuple #[] ∧ RefAt w' B pr { d with sure := settle K d.sure d.loose 0, loose := [] } left ps none cs 0 ∧ Kp w w' D) (fun t0' t3' t4' w' => (t0' = some ⟨pr, 0, none⟩ ∧ t3' = w.heap.size ∧ 0 ≤ t4' ∧ t4' ≤ (d.loose.length : Int) ∧ Kp w w' D ∧ Own w' w.heap.size 75 2 (some ⟨w.heap.size, 0, none⟩) 1 1 [.bool all, .slice kp n c] ∧
    ∃ s, RefAt w' B pr { d with sure := s } left ps pl cs cl ∧ s.length = d.sure.length ∧ settle K s (d.loose.drop t4'.toNat) t4' = settle K d.sure d.loose 0) ∧ ((d.loose.length : Int) - t4').toNat < ((d.loose.length : Int) - t).toNat) := by
      intro bb w2 K2 o2 a2 hbb
      unfold stopcockref05_Basin_settle.k1
      refine cond_of (fun hh => ?_) (fun hh => ?_)
      · rw [← hbb, hh, if_pos rfl] at hset
        have hdr := Ex.drew w2
        have a3 := a2.ex hdr
        have o3 := o2.ex hdr
        have K3 := K2.tr (hdr.kp _)
        generalize w2.drew = w3 at a3 o3 K3 ⊢
        try dsimp only [dI_i64, dI_u8, dI_u16, dI_u32, dB_bool, dS_slice, dP_ptr, dT_tup, dA_agg, dStr_str, dF_f, dC_c, dM_m, optP_some, ga0, ga1, ga2, ga3, ga4, cond_true, cond_false, chk_true, Bool.not_true, Bool.not_false, Option.isNone_none, Option.isNone_some, List.toList_toArray]
        simp only [addr1]
        obtain ⟨a, ha, hrow⟩ := (a3.lo.cells).row (rows := d.loose.map textRow) (text_rows _) (by decide) (i := t.toNat) (r := textRow x) (by rw [List.getElem?_map, hx]; rfl)
        have hr0 := hrow 0 _ rfl
        have hr1 := hrow 1 _ rfl
        rw [add_add, Nat.add_zero] at hr0
        refine ⟨_, _, _, a3.cell.at (j := 0) rfl, _, _, _, a3.cell.at (j := 1) rfl, chkd_of h0 (chkd_of hc (optP_of ha ⟨_, hr0, _, _, _, a3.cell.at (j := 1) rfl, chkd_of h0 (chkd_of hc (optP_of ha ⟨_, hr1, ?_⟩))⟩))⟩
        have hi : x.1.toNat < s.length := by have := hg.len; omega
        refine chkd_of hgx.1 (chkd_of (by ((try dsimp only); omega)) ?_)
        obtain ⟨v, hv, _⟩ := getE (l := strs s) (i := x.1.toNat) (by simpa [strs] using hi)
        obtain ⟨sa, hsa, _⟩ := (a3.su.cells).many (j := x.1.toNat) (v := v) hv
        subst hsa
        refine optP_of rfl ?_
        obtain ⟨q1, q2, q3, q4⟩ := a3.su.store (j := x.1.toNat) hi (str x.2) rfl
        refine ⟨q1, q2, ?_⟩
        rintro w4 rfl
        have t9 : ∀ i, i = sa.block → Typed w3 9 i := fun i hi => hi ▸ (a3.su.typed rfl).1
        rw [w64 (by omega) (by omega)]
        refine ⟨⟨trivial, trivial, by omega, by omega, K3.tr (q4.mono fun i _ hi => (hD i).2 (.inr (.inl ⟨sa, rfl, hi.symm⟩))), o3.away q4 9 t9 (by decide), s.set x.1.toNat x.2, ⟨?_, ?_, a3.lo.away q4 9 t9 (by decide)⟩, by rw [List.length_set]; exact hsl, ?_⟩, by omega⟩
        · have := a3.cell.away q4 9 t9 (by decide)
          simp only [List.length_set]
          exact this
        · have e : (strs s).set x.1.toNat (str x.2) = strs (s.set x.1.toNat x.2) := by unfold strs; rw [List.map_set]
          dsimp only at q3
          rw [e] at q3
          simp only [List.length_set]
          exact q3
        · rw [show (t + 1).toNat = t.toNat + 1 by omega]
          exact hset
      · rw [← hbb, hh, if_neg (by decide)] at hset
        rw [w64 (by omega) (by omega)]
        refine ⟨⟨rfl, rfl, by omega, by omega, K2, o2, s, a2, hsl, ?_⟩, by omega⟩
        rw [show (t + 1).toNat = t.toNat + 1 by omega]
        exact hset
    refine ⟨_, o2.at (j := 0) rfl, cond_of (fun hall => kk true w2 K2 o2 a2 ?_) (fun hall => ?_)⟩
    · rw [← hKt, hall]; rfl
    · refine ⟨_, _, _, o2.at (j := 1) rfl, ?_⟩
      refine callP.use (hasR_spec (hk w2 K2) hn hb t) ?_
      rintro _ w3 ⟨rfl, rfl⟩
      try dsimp only [dI_i64, dI_u8, dI_u16, dI_u32, dB_bool, dS_slice, dP_ptr, dT_tup, dA_agg, dStr_str, dF_f, dC_c, dM_m, optP_some, ga0, ga1, ga2, ga3, ga4, cond_true, cond_false, chk_true, Bool.not_true, Bool.not_false, Option.isNone_none, Option.isNone_some, List.toList_toArray]
      refine kk _ _ K2 o2 a2 ?_
      rw [← hKt, hall]; rfl
  · have hc := of_decide_eq_false hc
    dsimp only at hc
    rw [List.drop_eq_nil_of_le (by omega), settle_nil] at hset
    refine a2.cell.put1 (j := 1) (by show 1 < 1 * 4; omega) rfl fun w3 k3 o3 => ?_
    have t54 : ∀ i, i = pr → Typed w2 54 i := fun i hi => hi ▸ (a2.cell.typed rfl).1
    rw [hset] at a2 o3
    exact Ret.mk ⟨rfl, ⟨o3, a2.su.away k3 54 t54 (by decide), Own.nil _ _ _ _⟩, K2.tr (k3.mono fun i _ hi => (hD i).2 (.inl hi))⟩
end Go.Proofs.Yticdeknmeafjcaa.G
