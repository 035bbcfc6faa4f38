/- Words for proofs over Dec's statements: what of memory is kept, rows that are read, rows that are owned. Conditions: none; every theorem is over any program. -/
import Derived.Test.YthgmebhkbbehmaaDecH
import Derived.Below
namespace Go.Dec
open Go.RowKit
set_option linter.unusedVariables false
set_option linter.unusedSimpArgs false

/-! ### 1. What is kept -/
/-- w' is w but for new blocks, and for the blocks of S. -/
structure Kp (w w' : World) (S : Nat → Prop) : Prop where
  os : w'.os = w.os
  tape : w'.tape = w.tape
  output : w'.output = w.output
  size : w.heap.size ≤ w'.heap.size
  block : ∀ i, i < w.heap.size → ¬ S i → w'.heap[i]? = w.heap[i]?
abbrev Ex (w w' : World) : Prop := Kp w w' fun _ => False
theorem Kp.refl (w : World) (S : Nat → Prop) : Kp w w S := ⟨rfl, rfl, rfl, Nat.le_refl _, fun _ _ _ => rfl⟩
theorem Kp.trans {w w1 w2 : World} {S T U : Nat → Prop} (h : Kp w w1 S) (k : Kp w1 w2 T) (hS : ∀ i, i < w.heap.size → S i → U i) (hT : ∀ i, i < w.heap.size → T i → U i) : Kp w w2 U :=
  ⟨k.os.trans h.os, k.tape.trans h.tape, k.output.trans h.output, Nat.le_trans h.size k.size, fun i hi hu =>
    (k.block i (Nat.lt_of_lt_of_le hi h.size) fun t => hu (hT i hi t)).trans (h.block i hi fun s => hu (hS i hi s))⟩
theorem Kp.mono {w w1 : World} {S U : Nat → Prop} (h : Kp w w1 S) (hS : ∀ i, i < w.heap.size → S i → U i) : Kp w w1 U :=
  ⟨h.os, h.tape, h.output, h.size, fun i hi hu => h.block i hi fun s => hu (hS i hi s)⟩
theorem Ex.refl (w : World) : Ex w w := Kp.refl w _
theorem Ex.trans {w w1 w2 : World} (h : Ex w w1) (k : Ex w1 w2) : Ex w w2 := Kp.trans h k (fun _ _ h => h) (fun _ _ h => h)
theorem Ex.drewN (w : World) (n : Nat) : Ex w (w.drewN n) := ⟨rfl, rfl, rfl, Nat.le_refl _, fun _ _ _ => rfl⟩
theorem Ex.drew (w : World) : Ex w w.drew := ⟨rfl, rfl, rfl, Nat.le_refl _, fun _ _ _ => rfl⟩
theorem Ex.alloc (w : World) (o : Obj) : Ex w (w.alloc o) :=
  ⟨rfl, rfl, rfl, by show w.heap.size ≤ (w.heap.push o).size; simp, fun i hi _ => by show (w.heap.push o)[i]? = _; rw [Array.getElem?_push, if_neg (by omega)]⟩
theorem Kp.below {w w' : World} {S : Nat → Prop} (h : Kp w w' S) {B : Nat} (hB : B ≤ w.heap.size) (hS : ∀ i, i < B → ¬ S i) : Below B w w' :=
  ⟨h.os, h.tape, h.output, h.size, fun i hi => h.block i (Nat.lt_of_lt_of_le hi hB) (hS i hi)⟩
theorem Ex.below {w w' : World} (h : Ex w w') : Below w.heap.size w w' := Kp.below h (Nat.le_refl _) fun _ _ h => h
theorem Kp.of_below {w w' : World} {B : Nat} (h : Below B w w') : Kp w w' fun i => B ≤ i :=
  ⟨h.os, h.tape, h.output, h.size, fun i hi hb => h.block i (by omega)⟩
theorem Ex.of_below {w w' : World} (h : Below w.heap.size w w') : Ex w w' := (Kp.of_below h).mono fun i hi hb => by omega
theorem Kp.setCell (w : World) (a : Addr) (v : Value) {S : Nat → Prop} (hS : S a.block) : Kp w (w.setCell a v) S :=
  ⟨rfl, rfl, rfl, by simp [World.setCell], fun i hi hs => Below.heap_setCell w a v i fun e => hs (e ▸ hS)⟩
theorem Kp.setCells (b : Nat) {S : Nat → Prop} (hS : S b) : ∀ (vs : List Value) (o : Nat) (w : World), Kp w (w.setCells b o vs) S
  | [], _, w => Kp.refl w S
  | v :: r, o, w => (Kp.setCell w ⟨b, o, none⟩ v hS).trans (Kp.setCells b hS r (o + 1) _) (fun _ _ h => h) (fun _ _ h => h)

/-! ### 2. Rows that are read -/
theorem block_lt {w : World} {a : Addr} {v : Value} (h : w.cell? a = some v) : a.block < w.heap.size := block_lt_of_cell h
theorem Kp.cell {w w' : World} {S : Nat → Prop} (h : Kp w w' S) {a : Addr} {v : Value} (hc : w.cell? a = some v) (hs : ¬ S a.block) : w'.cell? a = some v := by
  have := h.block a.block (block_lt hc) hs
  simp only [World.cell?] at hc ⊢
  rw [this]
  exact hc
theorem CellsAt.kp {w w' : World} {S : Nat → Prop} (h : Kp w w' S) {a : Addr} {vs : List Value} (hc : CellsAt w a vs) (hs : ¬ S a.block) : CellsAt w' a vs := fun j v hv => h.cell (hc j v hv) (by rw [add_block]; exact hs)
theorem CellsO.kp {w w' : World} {S : Nat → Prop} (h : Kp w w' S) {a : Option Addr} {vs : List Value} (hc : CellsO w a vs) (hs : ∀ x, a = some x → ¬ S x.block) : CellsO w' a vs := by
  cases a with
  | none => exact hc
  | some a => exact CellsAt.kp h hc (hs a rfl)
theorem CellsO.ex {w w' : World} (h : Ex w w') {a : Option Addr} {vs : List Value} (hc : CellsO w a vs) : CellsO w' a vs := hc.kp h fun _ _ h => h
theorem CellsO.take {w : World} {a : Option Addr} {vs : List Value} (hc : CellsO w a vs) (n : Nat) : CellsO w a (vs.take n) := by
  cases a with
  | none => have : vs = [] := hc; subst this; simp [CellsO]
  | some a => exact fun j v hv => hc j v (by rw [List.getElem?_take] at hv; split at hv; exact hv; simp at hv)
theorem CellsO.cell {w : World} {a : Addr} {vs : List Value} (hc : CellsO w (some a) vs) {j : Nat} (hj : j < vs.length) : w.cell? (a.add j) = some vs[j] := hc j _ (List.getElem?_eq_getElem hj)
theorem add_add (a : Addr) (m n : Nat) : (a.add m).add n = a.add (m + n) := by
  unfold Addr.add
  by_cases hm : m = 0
  · subst hm; simp
  · by_cases hn : n = 0
    · subst hn; simp [hm]
    · have : m + n ≠ 0 := by omega
      simp [hm, hn, this, Nat.add_assoc]
theorem CellsAt.drop {w : World} {a : Addr} {vs : List Value} (hc : CellsAt w a vs) (n : Nat) : CellsAt w (a.add n) (vs.drop n) := fun j v hv => by
  rw [add_add]
  exact hc _ v (by rw [List.getElem?_drop] at hv; exact hv)
theorem CellsO.slice {w : World} {a : Option Addr} {vs : List Value} (hc : CellsO w a vs) (m l h : Nat) (hm : vs.length ≤ m) : CellsO w (slA a m l 1) ((vs.drop l).take h) := by
  unfold slA
  by_cases e : m = l
  · rw [if_pos e]
    have : vs.drop l = [] := List.drop_eq_nil_of_le (by omega)
    rw [this]
    cases a with
    | none => simp [CellsO]
    | some a => exact fun j v hv => by simp at hv
  · rw [if_neg e]
    refine CellsO.take ?_ h
    cases a with
    | none => have : vs = [] := hc; subst this; simp [CellsO]
    | some a =>
      show CellsAt w (a.add (l * 1)) _
      rw [Nat.mul_one]
      exact CellsAt.drop hc l

/-! ### 3. Blocks and stores -/
theorem heap_setCell_at {w : World} {b o : Nat} {cur : Array Value} {e : TypeId} {fr : Nat × Nat} (h : w.heap[b]? = some (.cells cur e fr)) (v : Value) :
    (w.setCell ⟨b, o, none⟩ v).heap[b]? = some (.cells (cur.setIfInBounds o v) e fr) := by
  simp only [World.setCell]
  rw [Array.getElem?_modify, if_pos rfl, h]
  simp
def put (cur : Array Value) (o : Nat) : List Value → Array Value
  | [] => cur
  | v :: r => put (cur.setIfInBounds o v) (o + 1) r
theorem heap_setCells_at (b : Nat) {e : TypeId} {fr : Nat × Nat} : ∀ (vs : List Value) (o : Nat) (w : World) (cur : Array Value), w.heap[b]? = some (.cells cur e fr) → (w.setCells b o vs).heap[b]? = some (.cells (put cur o vs) e fr)
  | [], _, _, _, h => h
  | v :: r, o, w, cur, h => heap_setCells_at b r (o + 1) _ _ (heap_setCell_at h v)
theorem size_put : ∀ (vs : List Value) (o : Nat) (cur : Array Value), (put cur o vs).size = cur.size
  | [], _, _ => rfl
  | v :: r, o, cur => by rw [put, size_put r, Array.size_setIfInBounds]
theorem get_put : ∀ (vs : List Value) (o : Nat) (cur : Array Value) (i : Nat), (put cur o vs)[i]? = if o ≤ i ∧ i < o + vs.length ∧ i < cur.size then vs[i - o]? else cur[i]?
  | [], o, cur, i => by
    rw [put, if_neg (by simp; omega)]
  | v :: r, o, cur, i => by
    rw [put, get_put r (o + 1), Array.size_setIfInBounds, Array.getElem?_setIfInBounds]
    simp only [List.length_cons]
    by_cases h1 : o = i
    · subst h1
      by_cases h2 : o < cur.size
      · rw [if_neg (by omega), if_pos rfl, if_pos h2, if_pos (by omega)]
        simp
      · rw [if_neg (by omega), if_pos rfl, if_neg h2, if_neg (by omega)]
        simp [Array.getElem?_eq_none (Nat.le_of_not_lt h2)]
    · rw [if_neg h1]
      by_cases h2 : o + 1 ≤ i ∧ i < o + 1 + r.length ∧ i < cur.size
      · rw [if_pos h2, if_pos (by omega), show i - o = (i - (o + 1)) + 1 by omega]
        simp
      · rw [if_neg h2, if_neg (by omega)]
theorem toList_put (cur : Array Value) (o : Nat) (vs : List Value) (h : o + vs.length ≤ cur.size) : (put cur o vs).toList = cur.toList.take o ++ vs ++ cur.toList.drop (o + vs.length) := by
  have hl : cur.toList.length = cur.size := Array.length_toList
  apply List.ext_getElem?
  intro i
  rw [Array.getElem?_toList, get_put]
  have ht : (cur.toList.take o).length = o := by simp; omega
  by_cases h1 : i < o
  · rw [if_neg (by omega), List.append_assoc, List.getElem?_append_left (by omega), List.getElem?_take_of_lt h1, Array.getElem?_toList]
  · by_cases h2 : i < o + vs.length
    · rw [if_pos (by omega), List.append_assoc, List.getElem?_append_right (by omega), ht, List.getElem?_append_left (by omega)]
    · rw [if_neg (by omega), List.append_assoc, List.getElem?_append_right (by omega), ht, List.getElem?_append_right (by omega), List.getElem?_drop, Array.getElem?_toList]
      congr 1
      omega
theorem heap_alloc_at (w : World) (o : Obj) : (w.alloc o).heap[w.heap.size]? = some o := heap_alloc_new w o
theorem cell_of_block {w : World} {b o : Nat} {cur : Array Value} {e : TypeId} {fr : Nat × Nat} (h : w.heap[b]? = some (.cells cur e fr)) : w.cell? ⟨b, o, none⟩ = cur[o]? := by simp [World.cell?, h]
theorem frozen_of_block {w : World} {b o : Nat} {cur : Array Value} {e : TypeId} {fr : Nat × Nat} (h : w.heap[b]? = some (.cells cur e fr)) : w.frozen? ⟨b, o, none⟩ = (fr.1 ≤ o && o < fr.2) := by simp [World.frozen?, h]

/-! ### 4. Rows that are owned: a slice that begins its block; its cells may be written -/
def Loose (fr : Nat × Nat) (n : Nat) : Prop := fr.2 ≤ fr.1 ∨ n ≤ fr.1
def Owns (w : World) (B : Nat) (e : TypeId) (sz : Nat) (p : Option Addr) (n c : Nat) (xs : List Value) : Prop :=
  xs.length = n * sz ∧ n ≤ c ∧ ((p = none ∧ c = 0) ∨ ∃ b cur fr, p = some ⟨b, 0, none⟩ ∧ B ≤ b ∧ w.heap[b]? = some (.cells cur e fr) ∧ Loose fr cur.size ∧ c * sz ≤ cur.size ∧ cur.toList.take (n * sz) = xs)
theorem Owns.cells {w : World} {B : Nat} {e : TypeId} {sz : Nat} {p : Option Addr} {n c : Nat} {xs : List Value} (h : Owns w B e sz p n c xs) : CellsO w p xs := by
  obtain ⟨hl, hn, h⟩ := h
  rcases h with ⟨rfl, rfl⟩ | ⟨b, cur, fr, rfl, hB, hb, hfr, hc, hx⟩
  · have : n = 0 := by omega
    subst this
    have : xs = [] := List.eq_nil_of_length_eq_zero (by rw [hl]; simp)
    subst this
    rfl
  · intro j v hv
    have hadd : (⟨b, 0, none⟩ : Addr).add j = ⟨b, j, none⟩ := by rw [Addr.add_lit]; simp
    rw [hadd, cell_of_block hb]
    rw [← hx, List.getElem?_take] at hv
    split at hv
    · rw [← Array.getElem?_toList]; exact hv
    · simp at hv
theorem Owns.nil (w : World) (B : Nat) (e : TypeId) (sz : Nat) : Owns w B e sz none 0 0 [] := ⟨by simp, Nat.le_refl _, .inl ⟨rfl, rfl⟩⟩
theorem Owns.kp {w w' : World} {S : Nat → Prop} {B : Nat} {e : TypeId} {sz : Nat} {p : Option Addr} {n c : Nat} {xs : List Value} (h : Owns w B e sz p n c xs) (hk : Kp w w' S) (hs : ∀ x, p = some x → ¬ S x.block) : Owns w' B e sz p n c xs := by
  obtain ⟨hl, hn, h⟩ := h
  refine ⟨hl, hn, ?_⟩
  rcases h with ⟨rfl, rfl⟩ | ⟨b, cur, fr, rfl, hB, hb, hfr, hc, hx⟩
  · exact .inl ⟨rfl, rfl⟩
  · refine .inr ⟨b, cur, fr, rfl, hB, ?_, hfr, hc, hx⟩
    have hlt : b < w.heap.size := by
      rcases Nat.lt_or_ge b w.heap.size with h | h
      · exact h
      · rw [Array.getElem?_eq_none h] at hb; cases hb
    rw [hk.block b hlt (hs _ rfl)]
    exact hb
theorem Owns.ex {w w' : World} {B : Nat} {e : TypeId} {sz : Nat} {p : Option Addr} {n c : Nat} {xs : List Value} (h : Owns w B e sz p n c xs) (hk : Ex w w') : Owns w' B e sz p n c xs := h.kp hk fun _ _ h => h
theorem Owns.lower {w : World} {B B' : Nat} {e : TypeId} {sz : Nat} {p : Option Addr} {n c : Nat} {xs : List Value} (h : Owns w B e sz p n c xs) (hB : B' ≤ B) : Owns w B' e sz p n c xs := by
  obtain ⟨hl, hn, h⟩ := h
  refine ⟨hl, hn, ?_⟩
  rcases h with h | ⟨b, cur, fr, hp, hb, r⟩
  · exact .inl h
  · exact .inr ⟨b, cur, fr, hp, Nat.le_trans hB hb, r⟩
theorem Owns.ge {w : World} {B : Nat} {e : TypeId} {sz : Nat} {p : Option Addr} {n c : Nat} {xs : List Value} (h : Owns w B e sz p n c xs) {x : Addr} (hx : p = some x) : B ≤ x.block ∧ x.block < w.heap.size := by
  obtain ⟨hl, hn, h⟩ := h
  rcases h with ⟨hp, _⟩ | ⟨b, cur, fr, hp, hB, hb, _⟩
  · rw [hp] at hx; cases hx
  · rw [hp] at hx
    cases hx
    refine ⟨hB, ?_⟩
    rcases Nat.lt_or_ge b w.heap.size with h | h
    · exact h
    · rw [Array.getElem?_eq_none h] at hb; cases hb
/-- A row that has just been made. -/
theorem Owns.made {w : World} {e : TypeId} {sz n c : Nat} {cur : Array Value} {fr : Nat × Nat} (hn : n ≤ c) (hc : c * sz ≤ cur.size) (hfr : Loose fr cur.size) :
    Owns (w.alloc (.cells cur e fr)) w.heap.size e sz (some ⟨w.heap.size, 0, none⟩) n c (cur.toList.take (n * sz)) := by
  refine ⟨?_, hn, .inr ⟨w.heap.size, cur, fr, rfl, Nat.le_refl _, heap_alloc_at w _, hfr, hc, rfl⟩⟩
  have : n * sz ≤ c * sz := Nat.mul_le_mul_right _ hn
  simp
  omega
theorem Loose.zero (n : Nat) : Loose (0, 0) n := .inl (Nat.le_refl _)

/-- append to an owned row. -/
theorem appP_own {w : World} {B : Nat} {e : TypeId} {sz : Nat} {p : Option Addr} {n c m bytes : Nat} {xs : List Value} {zero : Array Value} {Src : List Value → Prop} {N : Option Addr → Nat → World → Prop}
    (ho : Owns w B e sz p n c xs) (hB : B ≤ w.heap.size) (ys : List Value) (hs : Src ys) (hl : ys.length = m * sz) (h1 : ∀ y ∈ ys, y.oneCell' = true) (hz : zero.size = sz)
    (hb : (n + m) * bytes ≤ 140737488355328) (h63 : n + m ≤ 9223372036854775807)
    (K : ∀ p' c' w', Owns w' B e sz p' (n + m) c' (xs ++ ys) → Kp w w' (fun i => ∃ x, p = some x ∧ x.block = i) → N p' c' w') : appP w p n c m Src e sz bytes zero N := by
  have hcells := ho.cells
  obtain ⟨hlx, hnc, hp⟩ := ho
  refine ⟨ys, hl, hs, fun hroom => ?_, fun hgrow => ⟨hb, h63, xs, hlx, hcells, fun b c' w' hbe hc' hw' => ?_⟩⟩
  · rcases hp with ⟨rfl, rfl⟩ | ⟨b, cur, fr, rfl, hBb, hbl, hfr, hc, hx⟩
    · refine ⟨trivial, fun w' hw' => ?_⟩
      have hm : m = 0 := by omega
      have hn : n = 0 := by omega
      subst hm hn
      have : ys = [] := List.eq_nil_of_length_eq_zero (by rw [hl]; simp)
      subst this
      subst hw'
      refine K _ _ _ ⟨by simpa using hlx, Nat.zero_le _, .inl ⟨rfl, rfl⟩⟩ (Kp.refl _ _)
    · have hmul : (n + m) * sz ≤ c * sz := Nat.mul_le_mul_right _ hroom
      have hmul2 : (n + m) * sz = n * sz + m * sz := Nat.add_mul _ _ _
      have hadd : (⟨b, 0, none⟩ : Addr).add (n * sz) = ⟨b, n * sz, none⟩ := by rw [Addr.add_lit]; simp
      refine ⟨?_, fun w' hw' => ?_⟩
      · show Wr w ((⟨b, 0, none⟩ : Addr).add (n * sz)) ys
        rw [hadd]
        refine ⟨rfl, fun j hj => ⟨?_, ?_⟩, h1⟩ <;> dsimp only
        · rw [cell_of_block hbl, Array.getElem?_eq_getElem (by omega)]
          rfl
        · rw [frozen_of_block hbl]
          rcases hfr with h | h <;> simp <;> omega
      · have hw : w' = w.setCells b (n * sz) ys := by rw [hw']; simp [setO]
        subst hw
        have hb2 := heap_setCells_at b ys (n * sz) w cur hbl
        refine K _ _ _ ⟨by simp [hlx, hl, hmul2], hroom, .inr ⟨b, _, fr, rfl, hBb, hb2, by rw [size_put]; exact hfr, by rw [size_put]; exact hc, ?_⟩⟩ (Kp.setCells b ⟨_, rfl, rfl⟩ ys (n * sz) w)
        rw [toList_put _ _ _ (by omega), hmul2, hx, List.take_append_of_le_length (by simp [hlx, hl])]
        rw [List.take_of_length_le (by simp [hlx, hl])]
  · subst hw' hbe
    have hzs : (Builtin.zeroCells zero (c' - (n + m))).size = (c' - (n + m)) * sz := by rw [size_zeroCells, hz]
    have hsz : (xs.toArray ++ ys.toArray ++ Builtin.zeroCells zero (c' - (n + m))).size = c' * sz := by
      have : c' * sz = (n + m) * sz + (c' - (n + m)) * sz := by rw [← Nat.add_mul]; congr 1; omega
      simp only [Array.size_append, List.size_toArray, hzs, hlx, hl, this, Nat.add_mul]
    have hmade := Owns.made (w := w.drew) (e := e) (sz := sz) (n := n + m) (c := c') (cur := xs.toArray ++ ys.toArray ++ Builtin.zeroCells zero (c' - (n + m))) (fr := (0, 0)) hc' (by rw [hsz]; exact Nat.le_refl _) (Loose.zero _)
    have htake : (xs.toArray ++ ys.toArray ++ Builtin.zeroCells zero (c' - (n + m))).toList.take ((n + m) * sz) = xs ++ ys := by
      have e0 : (xs.toArray ++ ys.toArray ++ Builtin.zeroCells zero (c' - (n + m))).toList = (xs ++ ys) ++ (Builtin.zeroCells zero (c' - (n + m))).toList := by simp
      rw [e0, List.take_append_of_le_length (by simp [hlx, hl, Nat.add_mul]), List.take_of_length_le (by simp [hlx, hl, Nat.add_mul])]
    rw [htake] at hmade
    exact K _ _ _ (hmade.lower hB) ((Ex.trans (Ex.drew w) (Ex.alloc _ _)).mono fun _ _ h => h.elim)

/-! ### 5. Small words for steps -/
section steps
variable {N : Prop}
theorem dI_int (k : IntKind) (n : Int) (K : Int → Prop) : dI k (.int k n) K = K n := by simp [dI, chk]
theorem dI_i64 (n : Int) (K : Int → Prop) : dI .i64 (.int .i64 n) K = K n := rfl
theorem dI_u8 (n : Int) (K : Int → Prop) : dI .u8 (.int .u8 n) K = K n := rfl
theorem dI_u16 (n : Int) (K : Int → Prop) : dI .u16 (.int .u16 n) K = K n := rfl
theorem dI_u32 (n : Int) (K : Int → Prop) : dI .u32 (.int .u32 n) K = K n := rfl
theorem dB_bool (b : Bool) (K : Bool → Prop) : dB (.bool b) K = K b := rfl
theorem dS_slice (a : Option Addr) (n c : Nat) (K : Option Addr → Nat → Nat → Prop) : dS (.slice a n c) K = K a n c := rfl
theorem dP_ptr (a : Option Addr) (K : Option Addr → Prop) : dP (.pointer a) K = K a := rfl
theorem dA_agg (a : Array Value) (K : Array Value → Prop) : dA (.agg a) K = K a := rfl
theorem dT_tup (a : Array Value) (K : Array Value → Prop) : dT (.tuple a) K = K a := rfl
theorem dStr_str (a : ByteArray) (K : ByteArray → Prop) : dStr (.string a) K = K a := rfl
theorem dF_f (a : Nat) (K : Nat → Prop) : dF (.float .f64 a) K = K a := rfl
theorem dC_c (a b : Nat) (K : Nat → Nat → Prop) : dC (.complex .f64 a b) K = K a b := rfl
theorem dM_m (a : Option Nat) (K : Option Nat → Prop) : dM (.map a) K = K a := rfl
theorem optP_some {α : Type} (v : α) (K : α → Prop) : optP (some v) K = K v := rfl
theorem chk_true : chk true N = N := rfl
theorem chk_iff (b : Bool) : chk b N ↔ b = true ∧ N := ⟨chk_inv, fun h => chk_of h.1 h.2⟩
theorem chkd {p : Prop} [Decidable p] (h : p) : chk (decide p) N = N := by rw [decide_eq_true h]; rfl
theorem cond_of {b : Bool} {A C : Prop} (h1 : b = true → A) (h2 : b = false → C) : cond b A C := by cases b; exact h2 rfl; exact h1 rfl
theorem condd_pos {p : Prop} [Decidable p] (h : p) {A C : Prop} : cond (decide p) A C = A := by rw [decide_eq_true h]; rfl
theorem condd_neg {p : Prop} [Decidable p] (h : ¬ p) {A C : Prop} : cond (decide p) A C = C := by rw [decide_eq_false h]; rfl
theorem cond_pos {b : Bool} (h : b = true) {A C : Prop} : cond b A C = A := by rw [h]; rfl
theorem cond_neg {b : Bool} (h : b = false) {A C : Prop} : cond b A C = C := by rw [h]; rfl
theorem ga0 {α : Type} (a : α) (l : List α) : (List.toArray (a :: l))[0]? = some a := rfl
theorem ga1 {α : Type} (a b : α) (l : List α) : (List.toArray (a :: b :: l))[1]? = some b := rfl
theorem ga2 {α : Type} (a b c : α) (l : List α) : (List.toArray (a :: b :: c :: l))[2]? = some c := rfl
theorem ga3 {α : Type} (a b c d : α) (l : List α) : (List.toArray (a :: b :: c :: d :: l))[3]? = some d := rfl
theorem ga4 {α : Type} (a b c d e : α) (l : List α) : (List.toArray (a :: b :: c :: d :: e :: l))[4]? = some e := rfl
end steps
/-- The callee returns a value of which S holds. -/
def Ret (S : Value → World → Prop) : Ending → World → Prop := fun e w' => ∃ v, e = .returned v ∧ S v w'
theorem Ret.mk {S : Value → World → Prop} {v : Value} {w : World} (h : S v w) : Ret S (.returned v) w := ⟨v, rfl, h⟩
theorem callP.use {P : Program} {g : Nat} {args : Array Value} {w : World} {N : Value → World → Prop} {X : List PanicEntry → World → Prop} {S : Value → World → Prop}
    (h : Calls P g args w (Ret S)) (hr : ∀ v w', S v w' → N v w') : callP P g args w N X :=
  h.mono fun e w' ⟨v, he, hs⟩ => by subst he; exact hr v w' hs
theorem w64 {x : Int} (h1 : -9223372036854775808 ≤ x) (h2 : x ≤ 9223372036854775807) : IntKind.i64.wrap x = x := by rw [IntKind.wrap_i64]; omega
theorem wu8 (x : Int) : IntKind.u8.wrap x = x % 256 := by simp [IntKind.wrap, IntKind.signed, IntKind.bits]
theorem vals_one (k : IntKind) (xs : List Int) : ∀ y ∈ xs.map (Value.int k), y.oneCell' = true := by
  intro y hy
  obtain ⟨x, _, rfl⟩ := List.mem_map.1 hy
  rfl
/-- A new row of few cells. -/
theorem CellsO.alloc {w : World} (cs : List Value) (e : TypeId) : CellsO (w.alloc (.cells cs.toArray e)) (some ⟨w.heap.size, 0, none⟩) cs := fun j v hv => by
  have hadd : (⟨w.heap.size, 0, none⟩ : Addr).add j = ⟨w.heap.size, j, none⟩ := by rw [Addr.add_lit]; simp
  rw [hadd, cell_of_block (heap_alloc_at w _)]
  simpa using hv
theorem Owns.alloc {w : World} (cs : List Value) (e : TypeId) (sz n : Nat) (h : cs.length = n * sz) : Owns (w.alloc (.cells cs.toArray e)) w.heap.size e sz (some ⟨w.heap.size, 0, none⟩) n n cs := by
  have := Owns.made (w := w) (e := e) (sz := sz) (n := n) (c := n) (cur := cs.toArray) (fr := (0, 0)) (Nat.le_refl _) (by simp [h]) (Loose.zero _)
  rwa [List.take_of_length_le (by simp [h])] at this
end Go.Dec
