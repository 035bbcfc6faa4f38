/- Words for ranges over a function, by hand: what grows, what a body keeps, one chunk of a list. Conditions: none; every theorem is over any program. -/
import Derived.Test.YthgmebhkbbehmaaDecX
import Derived.Test.YthgmebhkbbehmaaDecW
namespace Go.Dec
set_option linter.unusedVariables false
set_option linter.unusedSimpArgs false

/-- no cells lie there, from B on -/
def NoC (W : World) (B : Nat) (i : Nat) : Prop := B ≤ i ∧ ∃ o : Obj, W.heap[i]? = some o ∧ o.isCells = false
theorem Kp.grown {B : Nat} {W W' : World} {row : Option Nat} (hg : W.grownBy W' row) (hr : ∀ r, row = some r → B ≤ r ∧ ∃ o : Obj, W.heap[r]? = some o ∧ o.isCells = false) : Kp W W' (NoC W B) :=
  ⟨hg.os, hg.tape, hg.output, hg.size, fun i hi hn => hg.block i hi fun e => hn (hr i e.symm)⟩
theorem Kp.putObj (W : World) (l : Nat) (o : Obj) : Kp W (W.putObj l o) fun i => i = l :=
  have hg := grownBy_putObj' W l o
  ⟨hg.os, hg.tape, hg.output, hg.size, fun i hi hn => hg.block i hi fun e => hn (by cases e; rfl)⟩
theorem NoC.typed {W : World} {B i : Nat} {e : TypeId} (h : NoC W B i) (t : Typed W e i) : False := by
  obtain ⟨_, o, ho, hc⟩ := h
  obtain ⟨cur, fr, ht⟩ := t
  rw [ho] at ht
  cases ht
  cases hc
theorem Owns.grown {W W' : World} {B C : Nat} {e : TypeId} {sz : Nat} {p : Option Addr} {n c : Nat} {xs : List Value} (h : Owns W B e sz p n c xs) (k : Kp W W' (NoC W C)) : Owns W' B e sz p n c xs :=
  h.kp k fun x hx hn => hn.typed (h.typed hx).1
theorem Kp.later {w W W' : World} {S : Nat → Prop} {B : Nat} (h : Kp w W S) (k : Kp W W' (NoC W B)) (hB : w.heap.size ≤ B) : Kp w W' S :=
  Kp.trans h k (fun _ _ h => h) (fun i hi hn => absurd hn.1 (by omega))
/-- what a body of a round keeps, if it turned cells alone -/
theorem KeepsOthers.of_kp {w w' : World} {S : Nat → Prop} (k : Kp w w' S) (hS : ∀ i, i < w.heap.size → S i → ∃ e, Typed w e i) : KeepsOthers w w' :=
  ⟨k.size, fun i o hi ho => by
    have hlt : i < w.heap.size := (Array.getElem?_eq_some_iff.1 hi).1
    rw [k.block i hlt fun hs => ?_]
    · exact hi
    · obtain ⟨e, cur, fr, ht⟩ := hS i hlt hs
      rw [hi] at ht
      cases ht
      cases ho⟩
theorem grown_drew (W : World) : W.grownBy W.drew none := ⟨rfl, rfl, rfl, Nat.le_refl _, fun _ _ _ => rfl⟩
theorem slA_zero (p : Option Addr) (m s : Nat) : slA p m 0 s = p := by
  unfold slA
  split
  · rfl
  · cases p with
    | none => rfl
    | some a => simp [Addr.add_zero']
/-- two cells that an iterator reads again -/
def Cells2 (q0 q1 : Nat) (v0 v1 : Value) (w : World) : Prop := w.cell? (⟨q0, 0, none⟩ : Addr) = some v0 ∧ w.cell? (⟨q1, 0, none⟩ : Addr) = some v1
def Keep2 (q0 q1 : Nat) (A B : World) : Prop := ∀ v0 v1, Cells2 q0 q1 v0 v1 A → Cells2 q0 q1 v0 v1 B
theorem Keep2.trans {q0 q1 : Nat} {A B C : World} (h : Keep2 q0 q1 A B) (k : Keep2 q0 q1 B C) : Keep2 q0 q1 A C := fun v0 v1 c => k v0 v1 (h v0 v1 c)
theorem cell_putObj {W : World} {l : Nat} {o o' : Obj} (h : W.heap[l]? = some o) (hc : o.isCells = false) {a : Addr} {v : Value} (hv : W.cell? a = some v) : (W.putObj l o').cell? a = some v := by
  refine (Kp.putObj W l o').cell hv fun e => ?_
  unfold World.cell? at hv
  rw [e, h] at hv
  cases o <;> first | (simp at hv; done) | (cases hc; done)
theorem Keep2.book {q0 q1 : Nat} (W : World) (l : Nat) (o o' : Obj) (h : W.heap[l]? = some o) (hc : o.isCells = false) : Keep2 q0 q1 W (W.putObj l o') := fun v0 v1 c => ⟨cell_putObj h hc c.1, cell_putObj h hc c.2⟩
theorem min2_le {n : Int} (h : n ≤ 6) : min2 6 n = n := by unfold min2; split <;> omega
end Go.Dec
