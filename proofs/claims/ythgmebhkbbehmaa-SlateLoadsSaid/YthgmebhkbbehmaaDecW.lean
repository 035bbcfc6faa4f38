/- More about owned rows: a longer or shorter part of one, a copy into the middle, an append of zeros that grows; a call of slices.overlaps. Conditions: none; every theorem is over any program. -/
import Derived.Test.YthgmebhkbbehmaaDecV
import Derived.Lib.Overlaps
namespace Go.Dec
open Go.RowKit
set_option linter.unusedVariables false
set_option linter.unusedSimpArgs false

theorem Owns.more {w : World} {B : Nat} {e : TypeId} {sz b n c : Nat} {xs : List Value} (h : Owns w B e sz (some ⟨b, 0, none⟩) n c xs) {k : Nat} (hk : n ≤ k) (hkc : k ≤ c) : ∃ ys, ys.length = (k - n) * sz ∧ Owns w B e sz (some ⟨b, 0, none⟩) k c (xs ++ ys) := by
  obtain ⟨hl, hn, hp⟩ := h
  rcases hp with ⟨hp, _⟩ | ⟨b', cur, fr, hp, hB, hb, hfr, hc, hx⟩
  · cases hp
  · cases hp
    have hm : k * sz ≤ c * sz := Nat.mul_le_mul_right _ hkc
    have hm2 : n * sz ≤ k * sz := Nat.mul_le_mul_right _ hk
    have e : xs ++ (cur.toList.take (k * sz)).drop (n * sz) = cur.toList.take (k * sz) := by
      conv => rhs; rw [← List.take_append_drop (n * sz) (cur.toList.take (k * sz))]
      rw [List.take_take, Nat.min_eq_left hm2, hx]
    refine ⟨(cur.toList.take (k * sz)).drop (n * sz), by simp [Nat.sub_mul]; omega, ?_⟩
    rw [e]
    exact ⟨by simp; omega, hkc, .inr ⟨_, cur, fr, rfl, hB, hb, hfr, hc, rfl⟩⟩
theorem Owns.less {w : World} {B : Nat} {e : TypeId} {sz n c : Nat} {p : Option Addr} {xs : List Value} (h : Owns w B e sz p n c xs) {k : Nat} (hk : k ≤ n) : Owns w B e sz p k c (xs.take (k * sz)) := by
  obtain ⟨hl, hn, hp⟩ := h
  have hm : k * sz ≤ n * sz := Nat.mul_le_mul_right _ hk
  refine ⟨by simp; omega, by omega, ?_⟩
  rcases hp with hp | ⟨b', cur, fr, hp, hB, hb, hfr, hc, hx⟩
  · exact .inl hp
  · exact .inr ⟨b', cur, fr, hp, hB, hb, hfr, hc, by rw [← hx, List.take_take, Nat.min_eq_left hm]⟩
theorem Owns.slA0 {w : World} {B : Nat} {e : TypeId} {sz n c : Nat} {p : Option Addr} {xs : List Value} (h : Owns w B e sz p n c xs) (s : Nat) : slA p c 0 s = p := by
  unfold slA
  split
  · rfl
  · rcases h.2.2 with ⟨rfl, _⟩ | ⟨b, cur, fr, rfl, _⟩
    · rfl
    · simp only [Option.map_some, Addr.add_lit]
      simp
/-- copy into the middle of an owned row -/
theorem copyP_at {w : World} {B : Nat} {e : TypeId} {p s : Option Addr} {n c sn dn : Nat} {xs ys : List Value} {N : World → Prop} (ho : Owns w B e 1 p n c xs) (o : Nat) (hs : CellsO w s ys) (hl : ys.length = min sn dn) (hr : o + ys.length ≤ n) (h1 : ∀ y ∈ ys, y.oneCell' = true)
    (K : ∀ w', Owns w' B e 1 p n c (xs.take o ++ ys ++ xs.drop (o + ys.length)) → Kp w w' (fun i => ∃ x, p = some x ∧ x.block = i) → N w') : copyP w (slA p c o 1) dn s sn 1 N := by
  obtain ⟨k1, k2, k3⟩ := ho.writes o ys (by omega) h1
  have key : WrO w (slA p c o 1) 0 ys ∧ setO w (slA p c o 1) 0 ys = setO w p o ys := by
    have hn := ho.2.1
    unfold slA
    split
    · rename_i hco
      have : ys = [] := List.eq_nil_of_length_eq_zero (by omega)
      subst this
      rcases ho.2.2 with ⟨rfl, _⟩ | ⟨b, cur, fr, rfl, _⟩
      · exact ⟨trivial, rfl⟩
      · refine ⟨?_, rfl⟩
        show Wr w ((⟨b, 0, none⟩ : Addr).add 0) []
        exact ⟨by simp [Addr.add_lit], fun j hj => by simp at hj, fun v hv => by cases hv⟩
    · rcases ho.2.2 with ⟨rfl, _⟩ | ⟨b, cur, fr, rfl, _⟩
      · exact ⟨trivial, rfl⟩
      · have k1 : Wr w ((⟨b, 0, none⟩ : Addr).add o) ys := k1
        constructor
        · show Wr w (((⟨b, 0, none⟩ : Addr).add (o * 1)).add 0) ys
          rw [add_add, Nat.mul_one, Nat.add_zero]
          exact k1
        · show w.setCells ((⟨b, 0, none⟩ : Addr).add (o * 1)).block (((⟨b, 0, none⟩ : Addr).add (o * 1)).off + 0) ys = w.setCells b (0 + o) ys
          rw [add_block, add_off, Nat.mul_one, Nat.add_zero]
  refine ⟨ys, by rw [hl, Nat.mul_one], hs, key.1, fun w' hw' => ?_⟩
  subst hw'
  rw [key.2]
  exact K _ k2 k3
/-- an append of zeros that grows -/
theorem appzP_grow {w : World} {B : Nat} {e : TypeId} {p : Option Addr} {i c m bytes : Nat} {v : Value} {xs : List Value} {N : Option Addr → Nat → World → Prop} (ho : Owns w B e 1 p i c xs) (hg : c < i + m) (hb : (i + m) * bytes ≤ 140737488355328) (h63 : i + m ≤ 9223372036854775807)
    (K : ∀ c' w' zs, zs.length = m → Ex w w' → Owns w' w.heap.size e 1 (some ⟨w.heap.size, 0, none⟩) (i + m) c' (xs ++ zs) → N (some ⟨w.heap.size, 0, none⟩) c' w') : appzP w p i c m e 1 bytes #[v] N := by
  have hzm : (Builtin.zeroCells #[v] m).size = m := by simp [size_zeroCells]
  have hmb : m * bytes ≤ (i + m) * bytes := Nat.mul_le_mul_right _ (by omega)
  refine ⟨by have : ((m * bytes : Nat) : Int) ≤ 281474976710656 := by omega
             rwa [Int.natCast_mul] at this, by omega, (Builtin.zeroCells #[v] m).toList, by simp [hzm], by simp, fun h => by omega, fun _ => ⟨hb, h63, xs, ho.1, ho.cells, fun b c' w' hbe hc' hw' => ?_⟩⟩
  subst hbe hw'
  have hlx : xs.length = i := by have := ho.1; omega
  have hzs : (Builtin.zeroCells #[v] (c' - (i + m))).size = c' - (i + m) := by rw [size_zeroCells]; simp
  have hsz : (xs.toArray ++ (Builtin.zeroCells #[v] m).toList.toArray ++ Builtin.zeroCells #[v] (c' - (i + m))).size = c' := by
    simp only [Array.size_append, List.size_toArray, Array.length_toList, hzs, hzm, hlx]
    omega
  have hmade := Owns.made (w := w.drew) (e := e) (sz := 1) (n := i + m) (c := c') (cur := xs.toArray ++ (Builtin.zeroCells #[v] m).toList.toArray ++ Builtin.zeroCells #[v] (c' - (i + m))) (fr := (0, 0)) hc' (by rw [hsz]; omega) (Loose.zero _)
  have htake : (xs.toArray ++ (Builtin.zeroCells #[v] m).toList.toArray ++ Builtin.zeroCells #[v] (c' - (i + m))).toList.take ((i + m) * 1) = xs ++ (Builtin.zeroCells #[v] m).toList := by
    have e0 : (xs.toArray ++ (Builtin.zeroCells #[v] m).toList.toArray ++ Builtin.zeroCells #[v] (c' - (i + m))).toList = (xs ++ (Builtin.zeroCells #[v] m).toList) ++ (Builtin.zeroCells #[v] (c' - (i + m))).toList := by simp
    rw [e0, List.take_append_of_le_length (by simp [hlx, hzm]), List.take_of_length_le (by simp [hlx, hzm])]
  rw [htake] at hmade
  exact K c' _ _ (by simp [hzm]) ((Ex.drew w).trans (Ex.alloc _ _)) hmade
/-- slices.overlaps of a row that has just been made and another -/
theorem extP_overlaps {P : Program} {g : FuncId} {fn : Func} {t r e : TypeId} (hf : P.funcs[g]? = some fn) (hname : (fn.name == "runtime.NumGoroutine") = false) (hb : fn.body.isNone = true) (hn : Extern.findNext fn = none)
    (he : Extern.find fn = some (Extern.SlicesOverlaps.overlaps #[t, t] #[r])) (ht : P.underlying t = some (.slice e)) {size : Nat} (hz : ∀ w, (Go.sizeOf e).run P w = .ok size w)
    {w : World} {vb : Nat} {v : Value} {te tb : TypeId} {cur : Array Value} {fr : Nat × Nat} {b o : Nat} (hv : w.heap[vb]? = some (.cells #[v] te)) (hw : w.heap[b]? = some (.cells cur tb fr)) (hcur : cur.size ≠ 0) (hne : vb ≠ b) {la ca lb cb : Nat}
    {N : Value → World → Prop} (h : N (.bool false) w) : extP P g #[.slice (some ⟨vb, 0, none⟩) la ca, .slice (some ⟨b, o, none⟩) lb cb] w N := by
  refine ⟨.bool false, w, ?_, h⟩
  rw [run_callFunc_extern hf hname hb hn he]
  rw [Lib.run_overlaps_apart w t r e ht size hz ⟨vb, 0, none⟩ ⟨b, o, none⟩ la ca lb cb hne te tb 1 cur.size (by simp [World.shape?, hv]) (by simp [World.shape?, hw]) hcur (by simp [World.frozen?, hv]) (by simp [World.frozen?, hv])]
  rfl
end Go.Dec
