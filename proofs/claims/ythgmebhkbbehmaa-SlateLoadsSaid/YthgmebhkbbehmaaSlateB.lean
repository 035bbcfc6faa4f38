/-
  slate.Load of any device.
-/
import Derived.Test.YthgmebhkbbehmaaSlateA
namespace Go.Proofs.Ythgmebhkbbehmaa.G.Sl
open Go.Dec Go.RowKit En
set_option linter.unusedVariables false
set_option linter.unusedSimpArgs false

/-- the best so far: a state, a geometry, a number -/
abbrev Acc := Sta × Int × Int × Int
def acc0 : Acc := (fl [], 0, 0, 0)
def upd (c : Acc) (a : Ans) : Acc := if a.2.2.2.2 = 0 ∧ c.2.2.2 < a.2.2.2.1 then (a.1, a.2.1, a.2.2.1, a.2.2.2.1) else c
noncomputable def accs (d : Bas.Dev) : Nat → Acc
  | 0 => acc0
  | i + 1 => upd (accs d i) (ans (pgL d (12 * i)))
theorem upd_or (c : Acc) (a : Ans) (hc : c.2.2.2 = 0 → c = acc0) (h0 : 0 ≤ c.2.2.2) : ((upd c a).2.2.2 = 0 → upd c a = acc0) ∧ 0 ≤ (upd c a).2.2.2 := by
  unfold upd
  split
  · rename_i h
    constructor
    · intro he
      have he : a.2.2.2.1 = 0 := he
      omega
    · show 0 ≤ a.2.2.2.1
      omega
  · exact ⟨hc, h0⟩
theorem accs_or (d : Bas.Dev) : ∀ i, ((accs d i).2.2.2 = 0 → accs d i = acc0) ∧ 0 ≤ (accs d i).2.2.2
  | 0 => ⟨fun _ => rfl, Int.le_refl 0⟩
  | i + 1 => upd_or _ _ (accs_or d i).1 (accs_or d i).2
/-- where an answer is kept -/
structure Kept (w : World) (b1 b2 : Nat) (c : Acc) (W : World) : Prop where
  ex : Ex w W
  low1 : w.heap.size ≤ b1
  low2 : w.heap.size ≤ b2
  ne : True
  row : ∃ ps, Owns W 0 ty_api_State 24 (some ⟨b1, 0, none⟩) 1 1 (stC c.1 ps) ∧ StO W c.1 ps
  plat : Owns W 0 ty_api_Plat 2 (some ⟨b2, 0, none⟩) 1 1 (two c.2.1 c.2.2.1)
theorem Kept.more {w W W' : World} {b1 b2 : Nat} {c : Acc} (h : Kept w b1 b2 c W) (x : Ex W W') : Kept w b1 b2 c W' := by
  obtain ⟨h1, h2, h3, _, ⟨ps, h4, h5⟩, h6⟩ := h
  exact ⟨h1.trans x, h2, h3, trivial, ⟨ps, h4.ex x, h5.ex x⟩, h6.ex x⟩
/-- an answer is laid into new cells, and taken from there if it is better -/
theorem Kept.step {w W : World} {b1 b2 : Nat} {c : Acc} (h : Kept w b1 b2 c W) {a : Ans} {ps : List Value} (hst : StO W a.1 ps) {t : Int} (ht : t = c.2.2.2) {N : Int → World → Prop}
    (K : ∀ W' t', t' = (upd c a).2.2.2 → Kept w b1 b2 (upd c a) W' → Kp W W' (fun i => i = b1 ∨ i = b2 ∨ W.heap.size ≤ i) → N t' W') :
    newP W zst.toArray ty_api_State fun b6 w19 =>
    newP w19 #[(Value.int .i64 0), (Value.int .i64 0)] ty_api_Plat fun b7 w20 =>
    chk (decide ((stC a.1 ps).toArray.size = 24)) (
      Wr w20 (⟨b6, 0, none⟩ : Addr) (stC a.1 ps) ∧ ∀ w21, w21 = w20.setCells (⟨b6, 0, none⟩ : Addr).block (⟨b6, 0, none⟩ : Addr).off (stC a.1 ps) →
      (chk (decide ((two a.2.1 a.2.2.1).toArray.size = 2)) (
          Wr w21 (⟨b7, 0, none⟩ : Addr) (two a.2.1 a.2.2.1) ∧ ∀ w22, w22 = w21.setCells (⟨b7, 0, none⟩ : Addr).block (⟨b7, 0, none⟩ : Addr).off (two a.2.1 a.2.2.1) →
          (cond (a.2.2.2.2 == 0) (
              cond (decide (a.2.2.2.1 > t)) (
                ∃ (cs5 : Array Value), cs5.size = 24 ∧ CellsAt w22.drew (⟨b6, 0, none⟩ : Addr) cs5.toList ∧
                (∃ (cs6 : Array Value), cs6.size = 2 ∧ CellsAt w22.drew (⟨b7, 0, none⟩ : Addr) cs6.toList ∧
                  (chk (decide (cs5.size = 24)) (
                      Wr w22.drew (⟨b1, 0, none⟩ : Addr) cs5.toList ∧ ∀ w23, w23 = w22.drew.setCells (⟨b1, 0, none⟩ : Addr).block (⟨b1, 0, none⟩ : Addr).off cs5.toList →
                      (chk (decide (cs6.size = 2)) (
                      CellsAt w23 (⟨b7, 0, none⟩ : Addr) cs6.toList ∧
                      (chk (decide (cs6.size = 2)) (
                      Wr w23 (⟨b2, 0, none⟩ : Addr) cs6.toList ∧ ∀ w24, w24 = w23.setCells (⟨b2, 0, none⟩ : Addr).block (⟨b2, 0, none⟩ : Addr).off cs6.toList →
                      N a.2.2.2.1 w24))))))))
                (N t w22))
              (N t w22))))) := by
  subst ht
  rintro b6 w19 rfl rfl b7 w20 rfl rfl
  rw [two_new]
  have o6 := Owns.new (w := W) zst ty_api_State
  have x19 := Ex.alloc W (.cells zst.toArray ty_api_State)
  have hb6 : W.heap.size ≤ W.heap.size := Nat.le_refl _
  generalize hb6e : W.heap.size = b6 at o6 hb6 ⊢
  have hb6 : W.heap.size ≤ b6 := by omega
  generalize W.alloc (.cells zst.toArray ty_api_State) = w19 at o6 x19 ⊢
  have o7 := Owns.new (w := w19) (two 0 0) ty_api_Plat
  have x20 := Ex.alloc w19 (.cells (two 0 0).toArray ty_api_Plat)
  have hb7 := x19.size
  generalize w19.heap.size = b7 at o7 hb7 ⊢
  generalize w19.alloc (.cells (two 0 0).toArray ty_api_Plat) = w20 at o7 x20 ⊢
  have o6 := o6.ex x20
  have hcl := hst.at.clen
  refine chk_of (decide_eq_true (by rw [List.size_toArray]; exact hcl)) ?_
  have t6 : ∀ i, i = b6 → Typed w20 ty_api_State i := fun i hi => by rw [hi]; exact (o6.typed rfl).1
  refine o6.put (cs := stC a.1 ps) hcl hst.at.one fun w21 k21 o21 => ?_
  have o7 := o7.away k21 ty_api_State t6 (by decide)
  refine chk_of (by rfl) ?_
  have t7 : ∀ i, i = b7 → Typed w21 ty_api_Plat i := fun i hi => by rw [hi]; exact (o7.typed rfl).1
  refine o7.put (cs := two a.2.1 a.2.2.1) (by rfl) two_one fun w22 k22 o22 => ?_
  have o21 := o21.away k22 ty_api_Plat t7 (by decide)
  have x22 : Ex W w22 := ((x19.trans x20).then k21 fun i hi => by omega).then k22 fun i hi => by omega
  have h22 := h.more x22
  have keep : ¬ (a.2.2.2.2 = 0 ∧ c.2.2.2 < a.2.2.2.1) → N c.2.2.2 w22 := fun hn => by
    have e : upd c a = c := by unfold upd; rw [if_neg hn]
    refine K w22 _ (by rw [e]) (by rw [e]; exact h22) (x22.mono fun i _ h => h.elim)
  refine cond_of (fun he => ?_) (fun he => ?_)
  · have he : a.2.2.2.2 = 0 := by simpa using he
    refine cond_of (fun hq => ?_) (fun hq => ?_)
    · have hq : c.2.2.2 < a.2.2.2.1 := by simpa using hq
      have e : upd c a = (a.1, a.2.1, a.2.2.1, a.2.2.2.1) := by unfold upd; rw [if_pos ⟨he, hq⟩]
      have d := Ex.drew w22
      obtain ⟨hx, l1, l2, _, ⟨qs, g1, g2⟩, g3⟩ := h22.more d
      have hst22 := (hst.ex x22).ex d
      have o21d := o21.ex d
      have o22d := o22.ex d
      refine ⟨(stC a.1 ps).toArray, by rw [List.size_toArray]; exact hcl, o21d.cells, (two a.2.1 a.2.2.1).toArray, rfl, o22d.cells, chk_of (decide_eq_true (by rw [List.size_toArray]; exact hcl)) ?_⟩
      have t1 : ∀ i, i = b1 → Typed w22.drew ty_api_State i := fun i hi => by rw [hi]; exact (g1.typed rfl).1
      refine g1.put (cs := stC a.1 ps) hcl hst22.at.one fun w23 k23 o23 => ?_
      have o22e := o22d.away k23 ty_api_State t1 (by decide)
      have g3 := g3.away k23 ty_api_State t1 (by decide)
      refine chk_of (by rfl) ⟨o22e.cells, chk_of (by rfl) ?_⟩
      have t2 : ∀ i, i = b2 → Typed w23 ty_api_Plat i := fun i hi => by rw [hi]; exact (g3.typed rfl).1
      refine g3.put (cs := two a.2.1 a.2.2.1) (by rfl) two_one fun w24 k24 o24 => ?_
      refine K w24 _ (by rw [e]) ?_ ?_
      · rw [e]
        exact ⟨(hx.then k23 fun i hi => by omega).then k24 fun i hi => by omega, l1, l2, trivial, ⟨ps, o23.away k24 ty_api_Plat t2 (by decide), (hst22.away k23 ty_api_State t1 (by decide)).away k24 ty_api_Plat t2 (by decide)⟩, o24⟩
      · refine Kp.trans ((x22.trans d).kp _) (Kp.trans k23 k24 (U := fun i => i = b1 ∨ i = b2 ∨ W.heap.size ≤ i) (fun i _ hi => .inl hi) (fun i _ hi => .inr (.inl hi))) (fun _ _ h => h) (fun _ _ h => h)
    · have hq : ¬ c.2.2.2 < a.2.2.2.1 := by simpa using hq
      exact keep fun h => hq h.2
  · have he : ¬ a.2.2.2.2 = 0 := by simpa using he
    exact keep fun h => he h.1
end Go.Proofs.Ythgmebhkbbehmaa.G.Sl
