/- More words: rows that are owned and begin anywhere in their block; structs in memory; blocks told apart by what they hold. Conditions: none; every theorem is over any program. -/
import Derived.Test.YthgmebhkbbehmaaDecS
namespace Go.Dec
open Go.RowKit
set_option linter.unusedVariables false
set_option linter.unusedSimpArgs false

/-! ### A struct in memory: one block -/
theorem Owns.at {w : World} {B : Nat} {e : TypeId} {sz b : Nat} {n c : Nat} {xs : List Value} (h : Owns w B e sz (some ⟨b, 0, none⟩) n c xs) {j : Nat} {v : Value} (hj : xs[j]? = some v) : w.cell? (⟨b, j, none⟩ : Addr) = some v := by
  have := h.cells j v hj
  have hadd : (⟨b, 0, none⟩ : Addr).add j = ⟨b, j, none⟩ := by rw [Addr.add_lit]; simp
  rwa [hadd] at this
theorem Owns.put {w : World} {B : Nat} {e : TypeId} {sz b : Nat} {xs cs : List Value} (ho : Owns w B e sz (some ⟨b, 0, none⟩) 1 1 xs) (hl : cs.length = sz) (h1 : ∀ y ∈ cs, y.oneCell' = true) {N : World → Prop}
    (K : ∀ w2, Kp w w2 (fun i => i = b) → Owns w2 B e sz (some ⟨b, 0, none⟩) 1 1 cs → N w2) : Wr w (⟨b, 0, none⟩ : Addr) cs ∧ ∀ w2, w2 = w.setCells (⟨b, 0, none⟩ : Addr).block (⟨b, 0, none⟩ : Addr).off cs → N w2 := by
  obtain ⟨k1, k2, k3⟩ := ho.writes 0 cs (by omega) h1
  have hx := ho.1
  have e0 : (⟨b, 0, none⟩ : Addr).add 0 = ⟨b, 0, none⟩ := Addr.add_zero' _
  refine ⟨?_, fun w2 hw => ?_⟩
  · have : Wr w ((⟨b, 0, none⟩ : Addr).add 0) cs := k1
    rwa [e0] at this
  · have hw2 : setO w (some ⟨b, 0, none⟩) 0 cs = w2 := by rw [hw]; rfl
    rw [hw2] at k2 k3
    refine K w2 (k3.mono fun i _ ⟨x, hx, hi⟩ => by cases hx; exact hi.symm) ?_
    rw [List.take_zero, List.nil_append, Nat.zero_add, hl, List.drop_eq_nil_of_le (by omega), List.append_nil] at k2
    exact k2
theorem Owns.put1 {w : World} {B : Nat} {e : TypeId} {sz b n c : Nat} {xs : List Value} (ho : Owns w B e sz (some ⟨b, 0, none⟩) n c xs) {j : Nat} (hj : j < n * sz) {v : Value} (hv : v.oneCell' = true) {N : World → Prop}
    (K : ∀ w2, Kp w w2 (fun i => i = b) → Owns w2 B e sz (some ⟨b, 0, none⟩) n c (xs.set j v) → N w2) : (w.cell? (⟨b, j, none⟩ : Addr)).isSome = true ∧ w.frozen? (⟨b, j, none⟩ : Addr) = false ∧ ∀ w2, w2 = w.setCell (⟨b, j, none⟩ : Addr) v → N w2 := by
  obtain ⟨h1, h2, h3⟩ := ho.writes j [v] (by simp; omega) (by simpa using hv)
  have hadd : (⟨b, 0, none⟩ : Addr).add j = ⟨b, j, none⟩ := by rw [Addr.add_lit]; simp
  have h1' : Wr w ((⟨b, 0, none⟩ : Addr).add j) [v] := h1
  rw [hadd] at h1'
  have hcell := h1'.2.1 0 (by simp)
  refine ⟨hcell.1, hcell.2, fun w2 hw => ?_⟩
  have hw2 : setO w (some ⟨b, 0, none⟩) j [v] = w2 := by
    rw [hw]
    show w.setCell ⟨b, 0 + j, none⟩ v = _
    rw [Nat.zero_add]
  rw [hw2] at h2 h3
  have hlx := ho.1
  have e3 : xs.take j ++ [v] ++ xs.drop (j + [v].length) = xs.set j v := by
    rw [List.set_eq_take_append_cons_drop, if_pos (by omega)]
    simp
  rw [e3] at h2
  exact K w2 (h3.mono fun i _ ⟨x, hx, hi⟩ => by cases hx; exact hi.symm) h2
/-- a new struct -/
theorem Owns.new {w : World} (cs : List Value) (e : TypeId) : Owns (w.alloc (.cells cs.toArray e)) w.heap.size e cs.length (some ⟨w.heap.size, 0, none⟩) 1 1 cs := Owns.alloc cs e cs.length 1 (by omega)

theorem Ex.then {w w1 w2 : World} {S : Nat → Prop} (h : Ex w w1) (k : Kp w1 w2 S) (hS : ∀ i, S i → w.heap.size ≤ i) : Ex w w2 :=
  Kp.trans h k (fun _ _ h => h) (fun i hi s => absurd (hS i s) (by omega))
theorem CellsO.one {w : World} {p : Option Addr} {xs : List Value} (h : CellsO w p xs) {v : Value} (h0 : xs[0]? = some v) : ∃ a, p = some a ∧ w.cell? a = some v := by
  cases p with
  | none => have : xs = [] := h; subst this; simp at h0
  | some a =>
    refine ⟨a, rfl, ?_⟩
    have := h 0 v h0
    rwa [show a.add 0 = a from Addr.add_zero' a] at this
theorem CellsO.many {w : World} {p : Option Addr} {xs : List Value} (h : CellsO w p xs) {j : Nat} {v : Value} (h0 : xs[j]? = some v) : ∃ a, p = some a ∧ w.cell? (a.add j) = some v := by
  cases p with
  | none => have : xs = [] := h; subst this; simp at h0
  | some a => exact ⟨a, rfl, h j v h0⟩

/-! ### Blocks told apart -/
def Typed (w : World) (e : TypeId) (i : Nat) : Prop := ∃ cur fr, w.heap[i]? = some (.cells cur e fr)
theorem Typed.ne {w : World} {e f : TypeId} {i j : Nat} (h : Typed w e i) (k : Typed w f j) (hne : e ≠ f) : i ≠ j := by
  rintro rfl
  obtain ⟨c, fr, h⟩ := h
  obtain ⟨c', fr', k⟩ := k
  rw [h] at k
  injection k with k
  injection k with _ k _
  exact hne k
theorem Owns.typed {w : World} {B : Nat} {e : TypeId} {sz : Nat} {p : Option Addr} {n c : Nat} {xs : List Value} (h : Owns w B e sz p n c xs) {x : Addr} (hx : p = some x) : Typed w e x.block ∧ B ≤ x.block ∧ x.block < w.heap.size := by
  refine ⟨?_, h.ge hx⟩
  obtain ⟨_, _, ⟨hp, _⟩ | ⟨b, cur, fr, hp, _, hb, _⟩⟩ := h
  · rw [hp] at hx; cases hx
  · rw [hp] at hx; cases hx; exact ⟨cur, fr, hb⟩
theorem Typed.kp {w w' : World} {S : Nat → Prop} {e : TypeId} {i : Nat} (h : Typed w e i) (k : Kp w w' S) (hs : ¬ S i) : Typed w' e i := by
  obtain ⟨c, fr, h⟩ := h
  have hlt : i < w.heap.size := by
    rcases Nat.lt_or_ge i w.heap.size with hl | hl
    · exact hl
    · rw [Array.getElem?_eq_none hl] at h; cases h
  exact ⟨c, fr, by rw [k.block i hlt hs]; exact h⟩

/-! ### Rows that begin anywhere -/
def OwnO (w : World) (B : Nat) (e : TypeId) (sz : Nat) (p : Option Addr) (n c : Nat) (xs : List Value) : Prop :=
  xs.length = n * sz ∧ n ≤ c ∧ ((p = none ∧ c = 0) ∨ ∃ b o cur fr, p = some ⟨b, o, none⟩ ∧ B ≤ b ∧ w.heap[b]? = some (.cells cur e fr) ∧ Loose fr cur.size ∧ o + c * sz ≤ cur.size ∧ (cur.toList.drop o).take (n * sz) = xs)
theorem Owns.toO {w : World} {B : Nat} {e : TypeId} {sz : Nat} {p : Option Addr} {n c : Nat} {xs : List Value} (h : Owns w B e sz p n c xs) : OwnO w B e sz p n c xs := by
  obtain ⟨hl, hn, h⟩ := h
  refine ⟨hl, hn, ?_⟩
  rcases h with h | ⟨b, cur, fr, hp, hB, hb, hfr, hc, hx⟩
  · exact .inl h
  · exact .inr ⟨b, 0, cur, fr, hp, hB, hb, hfr, by omega, by simpa using hx⟩
theorem OwnO.cells {w : World} {B : Nat} {e : TypeId} {sz : Nat} {p : Option Addr} {n c : Nat} {xs : List Value} (h : OwnO w B e sz p n c xs) : CellsO w p xs := by
  obtain ⟨hl, hn, h⟩ := h
  rcases h with ⟨rfl, rfl⟩ | ⟨b, o, cur, fr, rfl, hB, hb, hfr, hc, hx⟩
  · have : n = 0 := by omega
    subst this
    have : xs = [] := List.eq_nil_of_length_eq_zero (by rw [hl]; simp)
    subst this
    rfl
  · intro j v hv
    have hadd : (⟨b, o, none⟩ : Addr).add j = ⟨b, o + j, none⟩ := by rw [Addr.add_lit]
    rw [hadd, cell_of_block hb]
    rw [← hx, List.getElem?_take] at hv
    split at hv
    · rw [List.getElem?_drop] at hv
      rw [← Array.getElem?_toList]; exact hv
    · simp at hv
theorem OwnO.typed {w : World} {B : Nat} {e : TypeId} {sz : Nat} {p : Option Addr} {n c : Nat} {xs : List Value} (h : OwnO w B e sz p n c xs) {x : Addr} (hx : p = some x) : Typed w e x.block ∧ B ≤ x.block ∧ x.block < w.heap.size := by
  obtain ⟨_, _, ⟨hp, _⟩ | ⟨b, o, cur, fr, hp, hB, hb, _⟩⟩ := h
  · rw [hp] at hx; cases hx
  · rw [hp] at hx; cases hx
    refine ⟨⟨cur, fr, hb⟩, hB, ?_⟩
    rcases Nat.lt_or_ge b w.heap.size with h | h
    · exact h
    · rw [Array.getElem?_eq_none h] at hb; cases hb
theorem OwnO.kp {w w' : World} {S : Nat → Prop} {B : Nat} {e : TypeId} {sz : Nat} {p : Option Addr} {n c : Nat} {xs : List Value} (h : OwnO w B e sz p n c xs) (hk : Kp w w' S) (hs : ∀ x, p = some x → ¬ S x.block) : OwnO w' B e sz p n c xs := by
  have hty := @OwnO.typed _ _ _ _ _ _ _ _ h
  obtain ⟨hl, hn, h⟩ := h
  refine ⟨hl, hn, ?_⟩
  rcases h with h | ⟨b, o, cur, fr, rfl, hB, hb, hfr, hc, hx⟩
  · exact .inl h
  · refine .inr ⟨b, o, cur, fr, rfl, hB, ?_, hfr, hc, hx⟩
    rw [hk.block b (hty rfl).2.2 (hs _ rfl)]
    exact hb
theorem OwnO.ex {w w' : World} {B : Nat} {e : TypeId} {sz : Nat} {p : Option Addr} {n c : Nat} {xs : List Value} (h : OwnO w B e sz p n c xs) (hk : Ex w w') : OwnO w' B e sz p n c xs := h.kp hk fun _ _ h => h
theorem OwnO.lower {w : World} {B B' : Nat} {e : TypeId} {sz : Nat} {p : Option Addr} {n c : Nat} {xs : List Value} (h : OwnO w B e sz p n c xs) (hB : B' ≤ B) : OwnO w B' e sz p n c xs := by
  obtain ⟨hl, hn, h⟩ := h
  refine ⟨hl, hn, ?_⟩
  rcases h with h | ⟨b, o, cur, fr, hp, hb, r⟩
  · exact .inl h
  · exact .inr ⟨b, o, cur, fr, hp, Nat.le_trans hB hb, r⟩
theorem OwnO.nil (w : World) (B : Nat) (e : TypeId) (sz : Nat) : OwnO w B e sz none 0 0 [] := (Owns.nil w B e sz).toO
/-- what is left behind the first -/
theorem OwnO.tail {w : World} {B : Nat} {e : TypeId} {sz : Nat} {p : Option Addr} {n c : Nat} {xs : List Value} (h : OwnO w B e sz p n c xs) (h0 : 1 ≤ n) (hsz : 0 < sz) : OwnO w B e sz (slA p c 1 sz) (n - 1) (c - 1) (xs.drop sz) := by
  obtain ⟨hl, hn, h⟩ := h
  have e1 : (n - 1) * sz = n * sz - sz := by rw [Nat.sub_mul, Nat.one_mul]
  have e2 : (c - 1) * sz = c * sz - sz := by rw [Nat.sub_mul, Nat.one_mul]
  have e3 : 1 * sz ≤ n * sz := Nat.mul_le_mul_right _ h0
  have e4 : n * sz ≤ c * sz := Nat.mul_le_mul_right _ hn
  refine ⟨by rw [List.length_drop, hl, e1], by omega, ?_⟩
  rcases h with ⟨_, hc⟩ | ⟨b, o, cur, fr, rfl, hB, hb, hfr, hc, hx⟩
  · omega
  · unfold slA
    by_cases h1 : c = 1
    · subst h1
      have : n = 1 := by omega
      subst this
      refine .inr ⟨b, o, cur, fr, by simp, hB, hb, hfr, (by have : cur.toList.length = cur.size := Array.length_toList; rw [Nat.sub_self, Nat.zero_mul]; omega), ?_⟩
      have hd : xs.drop sz = [] := List.drop_eq_nil_of_le (by rw [hl]; omega)
      rw [hd, Nat.sub_self, Nat.zero_mul, List.take_zero]
    · rw [if_neg h1]
      refine .inr ⟨b, o + sz, cur, fr, ?_, hB, hb, hfr, by omega, ?_⟩
      · rw [Nat.one_mul, Option.map_some, Addr.add_lit]
      · rw [← hx, e1, ← List.drop_drop, List.drop_take]
/-- append to such a row -/
theorem appP_ownO {w : World} {B : Nat} {e : TypeId} {sz : Nat} {p : Option Addr} {n c m bytes : Nat} {xs : List Value} {zero : Array Value} {Src : List Value → Prop} {N : Option Addr → Nat → World → Prop}
    (ho : OwnO w B e sz p n c xs) (hB : B ≤ w.heap.size) (ys : List Value) (hs : Src ys) (hl : ys.length = m * sz) (h1 : ∀ y ∈ ys, y.oneCell' = true) (hz : zero.size = sz)
    (hb : (n + m) * bytes ≤ 140737488355328) (h63 : n + m ≤ 9223372036854775807)
    (K : ∀ p' c' w', OwnO w' B e sz p' (n + m) c' (xs ++ ys) → Kp w w' (fun i => ∃ x, p = some x ∧ x.block = i) → N p' c' w') : appP w p n c m Src e sz bytes zero N := by
  have hcells := ho.cells
  obtain ⟨hlx, hnc, hp⟩ := ho
  refine ⟨ys, hl, hs, fun hroom => ?_, fun hgrow => ⟨hb, h63, xs, hlx, hcells, fun b c' w' hbe hc' hw' => ?_⟩⟩
  · rcases hp with ⟨rfl, rfl⟩ | ⟨b, o, cur, fr, rfl, hBb, hbl, hfr, hc, hx⟩
    · refine ⟨trivial, fun w' hw' => ?_⟩
      have hm : m = 0 := by omega
      have hn : n = 0 := by omega
      subst hm hn
      have : ys = [] := List.eq_nil_of_length_eq_zero (by rw [hl]; simp)
      subst this
      subst hw'
      refine K _ _ _ ⟨by simpa using hlx, Nat.zero_le _, .inl ⟨rfl, rfl⟩⟩ (Kp.refl _ _)
    · have hmul : (n + m) * sz ≤ c * sz := Nat.mul_le_mul_right _ hroom
      have hmul2 : (n + m) * sz = n * sz + m * sz := Nat.add_mul _ _ _
      have hadd : (⟨b, o, none⟩ : Addr).add (n * sz) = ⟨b, o + n * sz, none⟩ := by rw [Addr.add_lit]
      refine ⟨?_, fun w' hw' => ?_⟩
      · show Wr w ((⟨b, o, none⟩ : Addr).add (n * sz)) ys
        rw [hadd]
        refine ⟨rfl, fun j hj => ⟨?_, ?_⟩, h1⟩ <;> dsimp only
        · rw [cell_of_block hbl, Array.getElem?_eq_getElem (by omega)]
          rfl
        · rw [frozen_of_block hbl]
          rcases hfr with h | h <;> simp <;> omega
      · have hw : w' = w.setCells b (o + n * sz) ys := by rw [hw']; simp [setO]
        subst hw
        have hb2 := heap_setCells_at b ys (o + n * sz) w cur hbl
        refine K _ _ _ ⟨by simp [hlx, hl, hmul2], hroom, .inr ⟨b, o, _, fr, rfl, hBb, hb2, by rw [size_put]; exact hfr, by rw [size_put]; exact hc, ?_⟩⟩ (Kp.setCells b ⟨_, rfl, rfl⟩ ys (o + n * sz) w)
        have hcl : cur.toList.length = cur.size := Array.length_toList
        rw [toList_put _ _ _ (by omega), hmul2]
        have t1 : (cur.toList.take (o + n * sz) ++ ys ++ cur.toList.drop (o + n * sz + ys.length)).drop o = xs ++ ys ++ cur.toList.drop (o + n * sz + ys.length) := by
          rw [List.append_assoc, List.drop_append_of_le_length (by rw [List.length_take]; omega), List.drop_take, show o + n * sz - o = n * sz by omega, hx, List.append_assoc]
        rw [t1, List.take_append_of_le_length (by simp [hlx, hl])]
        rw [List.take_of_length_le (by simp [hlx, hl])]
  · subst hw' hbe
    have hzs : (Builtin.zeroCells zero (c' - (n + m))).size = (c' - (n + m)) * sz := by rw [size_zeroCells, hz]
    have hsz : (xs.toArray ++ ys.toArray ++ Builtin.zeroCells zero (c' - (n + m))).size = c' * sz := by
      have : c' * sz = (n + m) * sz + (c' - (n + m)) * sz := by rw [← Nat.add_mul]; congr 1; omega
      simp only [Array.size_append, List.size_toArray, hzs, hlx, hl, this, Nat.add_mul]
    have hmade := Owns.made (w := w.drew) (e := e) (sz := sz) (n := n + m) (c := c') (cur := xs.toArray ++ ys.toArray ++ Builtin.zeroCells zero (c' - (n + m))) (fr := (0, 0)) hc' (by rw [hsz]; exact Nat.le_refl _) (Loose.zero _)
    have htake : (xs.toArray ++ ys.toArray ++ Builtin.zeroCells zero (c' - (n + m))).toList.take ((n + m) * sz) = xs ++ ys := by
      have e0 : (xs.toArray ++ ys.toArray ++ Builtin.zeroCells zero (c' - (n + m))).toList = (xs ++ ys) ++ (Builtin.zeroCells zero (c' - (n + m))).toList := by simp
      rw [e0, List.take_append_of_le_length (by simp [hlx, hl, Nat.add_mul]), List.take_of_length_le (by simp [hlx, hl, Nat.add_mul])]
    rw [htake] at hmade
    exact K _ _ _ (hmade.lower hB).toO ((Ex.trans (Ex.drew w) (Ex.alloc _ _)).mono fun _ _ h => h.elim)

theorem Owns.away {w w' : World} {S : Nat → Prop} {B : Nat} {e : TypeId} {sz : Nat} {p : Option Addr} {n c : Nat} {xs : List Value} (h : Owns w B e sz p n c xs) (k : Kp w w' S) (f : TypeId) (hs : ∀ i, S i → Typed w f i) (hne : e ≠ f) : Owns w' B e sz p n c xs :=
  h.kp k fun x hx hm => (h.typed hx).1.ne (hs _ hm) hne rfl
theorem OwnO.away {w w' : World} {S : Nat → Prop} {B : Nat} {e : TypeId} {sz : Nat} {p : Option Addr} {n c : Nat} {xs : List Value} (h : OwnO w B e sz p n c xs) (k : Kp w w' S) (f : TypeId) (hs : ∀ i, S i → Typed w f i) (hne : e ≠ f) : OwnO w' B e sz p n c xs :=
  h.kp k fun x hx hm => (h.typed hx).1.ne (hs _ hm) hne rfl
theorem Kp.tr {w w1 w2 : World} {S : Nat → Prop} (h : Kp w w1 S) (k : Kp w1 w2 S) : Kp w w2 S := Kp.trans h k (fun _ _ h => h) (fun _ _ h => h)
theorem Ex.kp {w w1 : World} (h : Ex w w1) (S : Nat → Prop) : Kp w w1 S := h.mono fun _ _ h => h.elim
theorem addr1 (b n : Nat) : (⟨b, 0, none⟩ : Addr).add n = ⟨b, n, none⟩ := by rw [Addr.add_lit]; simp

/-- one row of many -/
theorem CellsO.row {w : World} {p : Option Addr} {rows : List (List Value)} (h : CellsO w p rows.flatten) {k : Nat} (hk : ∀ r ∈ rows, r.length = k) (h0 : 0 < k) {i : Nat} {r : List Value} (hi : rows[i]? = some r) : ∃ a, p = some a ∧ CellsAt w (a.add (i * k)) r := by
  have hl := hk r (List.mem_of_getElem? hi)
  have h1 := flatten_at rows k hk i r hi 0 h0
  have e0 : r[0]? = some r[0] := List.getElem?_eq_getElem (by omega)
  rw [e0] at h1
  obtain ⟨a, rfl, _⟩ := h.many h1
  refine ⟨a, rfl, fun j v hj => ?_⟩
  have hjl := (List.getElem?_eq_some_iff.1 hj).1
  have := flatten_at rows k hk i r hi j (by omega)
  rw [hj] at this
  rw [add_add]
  exact h _ _ this
theorem flatten_drop {α : Type} {k : Nat} : ∀ (rows : List (List α)), (∀ r ∈ rows, r.length = k) → rows.flatten.drop k = (rows.drop 1).flatten
  | [], _ => by simp
  | r :: rs, h => by
    have := h r (by simp)
    rw [List.flatten_cons, List.drop_append_of_le_length (by omega), List.drop_eq_nil_of_le (by omega)]
    simp

/-! ### Aggregates put together; rows of rows; copies -/
theorem fold_put : ∀ (cs : List Value) (k o : Nat) (a : Array Value), (cs.zipIdx k).foldl (fun a (x : Value × Nat) => a.setIfInBounds (o + x.2) x.1) a = put a (o + k) cs
  | [], _, _, _ => rfl
  | c :: r, k, o, a => by
    rw [List.zipIdx_cons, List.foldl_cons, fold_put r (k + 1) o]
    rfl
theorem fill_step {place : Nat → Option (Nat × Nat)} {cells : Array Value} {i off size : Nat} {v : Value} {rest : List (Nat × Value)} (hp : place i = some (off, size)) (hv : v.cells.size = size) (hs : off + size ≤ cells.size) :
    Instr.fill place cells ((i, v) :: rest) = Instr.fill place (put cells off v.cells.toList) rest := by
  rw [Instr.fill, hp]
  dsimp only
  rw [if_neg (by simp [hv]; omega)]
  congr 1
  rw [← Array.foldl_toList, Array.toList_zipIdx]
  exact fold_put v.cells.toList 0 off cells
theorem put_whole (z : Array Value) (cs : List Value) (h : cs.length = z.size) : put z 0 cs = cs.toArray := by
  apply Array.ext'
  have hl : z.toList.length = z.size := Array.length_toList
  rw [toList_put _ _ _ (by omega), List.take_zero, List.nil_append, Nat.zero_add, List.drop_eq_nil_of_le (by omega), List.append_nil]
theorem fill_whole (k : Nat) (z cs : Array Value) (hz : z.size = k) (hc : cs.size = k) : Instr.fill (fun i => some (i * k, k)) z [(0, .agg cs)] = some cs := by
  rw [fill_step (off := 0) (size := k) (v := .agg cs) (by simp) hc (by omega)]
  show some (put z 0 cs.toList) = some cs
  rw [put_whole z cs.toList (by simp; omega)]
theorem fill_head (k : Nat) (z cs : Array Value) (v : Value) (hz : z.size = 1 + k) (hv : v.cells = #[v]) (hc : cs.size = k) : Instr.fill (fun i => #[(0, 1), (1, k)][i]?) z [(0, v), (1, .agg cs)] = some (v :: cs.toList).toArray := by
  rw [fill_step (off := 0) (size := 1) (by simp) (by rw [hv]; rfl) (by omega), fill_step (off := 1) (size := k) (v := .agg cs) (by simp) hc (by rw [size_put]; omega)]
  show some _ = some _
  congr 1
  have hl : z.toList.length = z.size := Array.length_toList
  apply Array.ext'
  rw [hv]
  show (put (put z 0 [v]) 1 cs.toList).toList = v :: cs.toList
  have hcl : cs.toList.length = cs.size := Array.length_toList
  rw [toList_put _ _ _ (by rw [size_put]; omega), toList_put _ _ _ (by simp; omega)]
  simp only [List.take_zero, List.nil_append, Nat.zero_add, List.length_cons, List.length_nil]
  rw [List.take_append_of_le_length (by simp), List.drop_eq_nil_of_le (by simp; omega)]
  simp
theorem madeCells_rep (k m : Nat) (v : Value) (hk : 0 < k) : madeCells (List.replicate k v).toArray m = (List.replicate m v).toArray := by
  apply Array.ext
  · simp [madeCells]
  · intro i h1 h2
    have : i % k < k := Nat.mod_lt _ hk
    simp [madeCells, this]
theorem flatten_set {α : Type} {k : Nat} : ∀ (rows : List (List α)) (i : Nat) (r : List α), (∀ r ∈ rows, r.length = k) → i < rows.length → r.length = k → rows.flatten.take (i * k) ++ r ++ rows.flatten.drop (i * k + r.length) = (rows.set i r).flatten
  | [], i, r, _, h, _ => by simp at h
  | x :: rs, 0, r, hk, _, hr => by
    have hx := hk x (by simp)
    simp only [Nat.zero_mul, List.take_zero, List.nil_append, Nat.zero_add, List.flatten_cons, List.set_cons_zero]
    rw [List.drop_append_of_le_length (by omega), List.drop_eq_nil_of_le (by omega), List.nil_append]
  | x :: rs, i + 1, r, hk, h, hr => by
    have hx := hk x (by simp)
    have ih := flatten_set rs i r (fun r hr => hk r (List.mem_cons_of_mem _ hr)) (by simpa using h) hr
    rw [List.flatten_cons, List.set_cons_succ, List.flatten_cons, ← ih, Nat.add_mul, Nat.one_mul]
    rw [show i * k + k = x.length + i * k by omega, List.take_length_add_append, show x.length + i * k + r.length = x.length + (i * k + r.length) by omega, List.drop_length_add_append]
    simp [List.append_assoc]
theorem copyP_ownS {w : World} {B : Nat} {e : TypeId} {sz : Nat} {p s : Option Addr} {n c sn : Nat} {xs ys : List Value} {N : World → Prop} (ho : Owns w B e sz p n c xs) (hs : CellsO w s ys) (hl : ys.length = sn * sz) (hsn : sn ≤ n) (h1 : ∀ y ∈ ys, y.oneCell' = true)
    (K : ∀ w', Owns w' B e sz p n c (ys ++ xs.drop (sn * sz)) → Kp w w' (fun i => ∃ x, p = some x ∧ x.block = i) → N w') : copyP w p n s sn sz N := by
  have hm : sn * sz ≤ n * sz := Nat.mul_le_mul_right _ hsn
  obtain ⟨k1, k2, k3⟩ := ho.writes 0 ys (by omega) h1
  refine ⟨ys, by rw [hl]; congr 1; exact (Nat.min_eq_left hsn).symm, hs, k1, fun w' hw' => ?_⟩
  subst hw'
  rw [Nat.zero_add, hl] at k2
  exact K _ (by simpa using k2) k3
/-- append to an owned row: where it lies then -/
theorem appP_own2 {w : World} {B : Nat} {e : TypeId} {sz : Nat} {p : Option Addr} {n c m bytes : Nat} {xs : List Value} {zero : Array Value} {Src : List Value → Prop} {N : Option Addr → Nat → World → Prop}
    (ho : Owns w B e sz p n c xs) (hB : B ≤ w.heap.size) (ys : List Value) (hs : Src ys) (hl : ys.length = m * sz) (h1 : ∀ y ∈ ys, y.oneCell' = true) (hz : zero.size = sz)
    (hb : (n + m) * bytes ≤ 140737488355328) (h63 : n + m ≤ 9223372036854775807)
    (K : ∀ p' c' w', Owns w' B e sz p' (n + m) c' (xs ++ ys) → Kp w w' (fun i => ∃ x, p = some x ∧ x.block = i) → (p' = p ∨ ∀ x, p' = some x → w.heap.size ≤ x.block) → N p' c' w') : appP w p n c m Src e sz bytes zero N := by
  have hcells := ho.cells
  obtain ⟨hlx, hnc, hp⟩ := ho
  refine ⟨ys, hl, hs, fun hroom => ?_, fun hgrow => ⟨hb, h63, xs, hlx, hcells, fun b c' w' hbe hc' hw' => ?_⟩⟩
  · rcases hp with ⟨rfl, rfl⟩ | ⟨b, cur, fr, rfl, hBb, hbl, hfr, hc, hx⟩
    · refine ⟨trivial, fun w' hw' => ?_⟩
      have hm : m = 0 := by omega
      have hn : n = 0 := by omega
      subst hm hn
      have : ys = [] := List.eq_nil_of_length_eq_zero (by rw [hl]; simp)
      subst this
      subst hw'
      refine K _ _ _ ⟨by simpa using hlx, Nat.zero_le _, .inl ⟨rfl, rfl⟩⟩ (Kp.refl _ _) (.inl rfl)
    · have hmul : (n + m) * sz ≤ c * sz := Nat.mul_le_mul_right _ hroom
      have hmul2 : (n + m) * sz = n * sz + m * sz := Nat.add_mul _ _ _
      have hadd : (⟨b, 0, none⟩ : Addr).add (n * sz) = ⟨b, n * sz, none⟩ := by rw [Addr.add_lit]; simp
      refine ⟨?_, fun w' hw' => ?_⟩
      · show Wr w ((⟨b, 0, none⟩ : Addr).add (n * sz)) ys
        rw [hadd]
        refine ⟨rfl, fun j hj => ⟨?_, ?_⟩, h1⟩ <;> dsimp only
        · rw [cell_of_block hbl, Array.getElem?_eq_getElem (by omega)]
          rfl
        · rw [frozen_of_block hbl]
          rcases hfr with h | h <;> simp <;> omega
      · have hw : w' = w.setCells b (n * sz) ys := by rw [hw']; simp [setO]
        subst hw
        have hb2 := heap_setCells_at b ys (n * sz) w cur hbl
        refine K _ _ _ ⟨by simp [hlx, hl, hmul2], hroom, .inr ⟨b, _, fr, rfl, hBb, hb2, by rw [size_put]; exact hfr, by rw [size_put]; exact hc, ?_⟩⟩ (Kp.setCells b ⟨_, rfl, rfl⟩ ys (n * sz) w) (.inl rfl)
        rw [toList_put _ _ _ (by omega), hmul2, hx, List.take_append_of_le_length (by simp [hlx, hl])]
        rw [List.take_of_length_le (by simp [hlx, hl])]
  · subst hw' hbe
    have hzs : (Builtin.zeroCells zero (c' - (n + m))).size = (c' - (n + m)) * sz := by rw [size_zeroCells, hz]
    have hsz : (xs.toArray ++ ys.toArray ++ Builtin.zeroCells zero (c' - (n + m))).size = c' * sz := by
      have : c' * sz = (n + m) * sz + (c' - (n + m)) * sz := by rw [← Nat.add_mul]; congr 1; omega
      simp only [Array.size_append, List.size_toArray, hzs, hlx, hl, this, Nat.add_mul]
    have hmade := Owns.made (w := w.drew) (e := e) (sz := sz) (n := n + m) (c := c') (cur := xs.toArray ++ ys.toArray ++ Builtin.zeroCells zero (c' - (n + m))) (fr := (0, 0)) hc' (by rw [hsz]; exact Nat.le_refl _) (Loose.zero _)
    have htake : (xs.toArray ++ ys.toArray ++ Builtin.zeroCells zero (c' - (n + m))).toList.take ((n + m) * sz) = xs ++ ys := by
      have e0 : (xs.toArray ++ ys.toArray ++ Builtin.zeroCells zero (c' - (n + m))).toList = (xs ++ ys) ++ (Builtin.zeroCells zero (c' - (n + m))).toList := by simp
      rw [e0, List.take_append_of_le_length (by simp [hlx, hl, Nat.add_mul]), List.take_of_length_le (by simp [hlx, hl, Nat.add_mul])]
    rw [htake] at hmade
    exact K _ _ _ (hmade.lower hB) ((Ex.trans (Ex.drew w) (Ex.alloc _ _)).mono fun _ _ h => h.elim) (.inr fun x hx => by cases hx; exact Nat.le_refl _)
end Go.Dec
