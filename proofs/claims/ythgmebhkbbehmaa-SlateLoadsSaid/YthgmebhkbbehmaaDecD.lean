/- Operations of loaded code that write, make memory or call. Conditions: none; every theorem is over any program. -/
import Derived.Test.YthgmebhkbbehmaaDecC
import Derived.Laws.IdiomCopy
namespace Go.Dec
set_option linter.unusedVariables false
set_option linter.unusedSimpArgs false

/-! ### 12. Stores -/
def Wr (w : World) (a : Addr) (vs : List Value) : Prop :=
  a.spot = none ∧ (∀ j, j < vs.length → (w.cell? ⟨a.block, a.off + j, none⟩).isSome = true ∧ w.frozen? ⟨a.block, a.off + j, none⟩ = false) ∧ ∀ v ∈ vs, v.oneCell' = true
theorem run_wr {P : Program} {w : World} {a : Addr} {vs : List Value} (h : Wr w a vs) : (storeCells a vs).run P w = .ok () (w.setCells a.block a.off vs) := by
  obtain ⟨b, o, s⟩ := a
  obtain ⟨rfl, h, h1⟩ := h
  exact run_storeCells_cells b o vs 0 w (fun j hj => by simpa using (h j hj).1) (fun j hj => by simpa using (h j hj).2) h1
theorem add_block (a : Addr) (n : Nat) : (a.add n).block = a.block := by unfold Addr.add; split <;> rfl
theorem add_off (a : Addr) (n : Nat) : (a.add n).off = a.off + n := by
  unfold Addr.add; split
  · rename_i h; simp [h]
  · rfl
theorem add_spot {a : Addr} (h : a.spot = none) (n : Nat) : (a.add n).spot = none := by unfold Addr.add; split <;> simp_all
def WrO (w : World) (a : Option Addr) (off : Nat) (vs : List Value) : Prop := match a with | none => True | some a => Wr w (a.add off) vs
def setO (w : World) (a : Option Addr) (off : Nat) (vs : List Value) : World := match a with | none => w | some a => w.setCells a.block (a.off + off) vs

def stP (c : Cx) (t : TypeId) (a : Addr) (v : Value) (w : World) (N : World → Prop) : Prop :=
  optP (tget c.tb t) fun i => cond (descAgg i.desc)
    (dA v fun cs => chk (decide (cs.size = i.size)) (Wr w a cs.toList ∧ ∀ w', w' = w.setCells a.block a.off cs.toList → N w'))
    (chk (decide (i.size = 1)) (chk v.oneCell' ((w.cell? a).isSome = true ∧ w.frozen? a = false ∧ ∀ w', w' = w.setCell a v → N w')))
theorem stP_sound {c : Cx} (hc : CxOk c) {t : TypeId} {a : Addr} {v : Value} {w : World} {N : World → Prop} (h : stP c t a v w N) :
    ∃ w', (Instr.storeAt t (.pointer (some a)) v).run c.P w = .ok () w' ∧ N w' := by
  obtain ⟨i, hi, h⟩ := optP_inv h
  have hi := hc.ti hi
  have hsz := hi.gives_size (H := w.heap) w rfl
  cases hd : descAgg i.desc with
  | true =>
    rw [hd] at h
    obtain ⟨cs, rfl, h2⟩ := dA_inv h
    obtain ⟨hs, hw, h3⟩ := chk_inv h2
    have hs := of_decide_eq_true hs
    refine ⟨_, ?_, h3 _ rfl⟩
    unfold Instr.storeAt
    simp only [Instr.sureAddr, pure_bind]
    unfold storeVar
    simp [hsz, Value.cells, hs, run_wr hw]
  | false =>
    rw [hd] at h
    obtain ⟨hs, h2⟩ := chk_inv h
    obtain ⟨h1, hcell, hf, h3⟩ := chk_inv h2
    have hs := of_decide_eq_true hs
    obtain ⟨u, hu⟩ := Option.isSome_iff_exists.1 hcell
    refine ⟨_, ?_, h3 _ rfl⟩
    have hvc : v.cells = #[v] := by cases v <;> first | rfl | (simp [Value.oneCell'] at h1)
    have hst : (store a v).run c.P w = .ok () (w.setCell a v) := by
      rw [run_store c.P w a v _ h1]
      simp [hu, hf]
    unfold Instr.storeAt
    simp only [Instr.sureAddr, pure_bind]
    unfold storeVar
    simp [hsz, hvc, hs, storeCells, Addr.add_zero', hst]

/-! ### 13. New memory -/
def newP (w : World) (cells : Array Value) (e : TypeId) (K : Nat → World → Prop) : Prop := ∀ b w', b = w.heap.size → w' = w.alloc (.cells cells e) → K b w'
def mkP (c : Cx) (t : TypeId) (l m : Value) (w : World) (N : Value → World → Prop) : Prop :=
  optP (tget c.tb t) fun i => match i.desc with
    | .slice e => optP (tget c.tb e) fun ei => (match l, m with
      | .int _ l, .int _ m => chk (decide (0 ≤ l)) (chk (decide (l ≤ m)) (chk (decide ((ei.bytes : Int) * m ≤ 281474976710656 ∧ m ≤ 9223372036854775807))
          (newP w (madeCells ei.zero.toArray (m.toNat * ei.size)) e fun b w' => N (.slice (some ⟨b, 0, none⟩) l.toNat m.toNat) w')))
      | _, _ => False)
    | _ => False
theorem TIok.info {P : Program} {t : TypeId} {i : TI} (h : TIok P t i) : ∃ x z, P.info? t = some x ∧ x.zero = some z ∧ z.cells = i.zero.toArray ∧ x.size = i.size ∧ x.bytes = i.bytes := by
  obtain ⟨_, h2, h3⟩ := h
  cases hq : P.info? t with
  | none => simp [hq] at h3
  | some x =>
    cases hz : x.zero with
    | none => simp [hq, hz] at h3
    | some z =>
      simp [hq, hz] at h3
      simp [hq] at h2
      exact ⟨x, z, rfl, hz, by rw [← h3, Array.toArray_toList], h2.1, h2.2⟩
theorem mkP_sound {c : Cx} (hc : CxOk c) {t : TypeId} {l m : Value} {w : World} {N : Value → World → Prop} (h : mkP c t l m w N) :
    ∃ v w', (Instr.makeSlice t l m).run c.P w = .ok v w' ∧ N v w' := by
  obtain ⟨i, hi, h⟩ := optP_inv h
  have hi := hc.ti hi
  split at h
  · rename_i e hd
    obtain ⟨ei, hei, h⟩ := optP_inv h
    have hei := hc.ti hei
    split at h
    · rename_i kl l km m hmk hmk2
      obtain ⟨h0, h⟩ := chk_inv h
      obtain ⟨h1, h⟩ := chk_inv h
      obtain ⟨h2, h⟩ := chk_inv h
      have h0 := of_decide_eq_true h0
      have h1 := of_decide_eq_true h1
      have h2 := of_decide_eq_true h2
      obtain ⟨x, z, hx, hz, hzc, hs, hb⟩ := hei.info
      have := run_make w t e x z (P := c.P) (by rw [hi.1, hd]) hx hz kl km l m h0 h1 (by rw [hb]; exact h2.1) h2.2
      rw [hzc, hs] at this
      exact ⟨_, _, this, h _ _ rfl rfl⟩
    · exact h.elim
  · exact h.elim

/-! ### 14. append, copy -/
def appP (w : World) (base : Option Addr) (n cap : Nat) (m : Nat) (Src : List Value → Prop) (e : TypeId) (size bytes : Nat) (zero : Array Value) (N : Option Addr → Nat → World → Prop) : Prop :=
  ∃ xs : List Value, xs.length = m * size ∧ Src xs ∧
    (n + m ≤ cap → WrO w base (n * size) xs ∧ ∀ w', w' = setO w base (n * size) xs → N base cap w') ∧
    (cap < n + m → (n + m) * bytes ≤ 140737488355328 ∧ n + m ≤ 9223372036854775807 ∧ ∃ olds : List Value, olds.length = n * size ∧ CellsO w base olds ∧
      ∀ b cap' w', b = w.heap.size → n + m ≤ cap' → w' = w.drew.alloc (.cells (olds.toArray ++ xs.toArray ++ Builtin.zeroCells zero (cap' - (n + m))) e) → N (some ⟨b, 0, none⟩) cap' w')
theorem run_firstCells_O {P : Program} {w w' : World} (hw : w'.heap = w.heap) {a : Option Addr} {xs : List Value} (h : CellsO w a xs) {size n len cap : Nat} (hl : xs.length = n * size) :
    (Builtin.firstCells size n (.slice a len cap)).run P w' = .ok xs.toArray w' := by
  cases a with
  | none =>
    have : xs = [] := h
    subst this
    simp [Builtin.firstCells]
  | some a =>
    have := gives_loadCells (P := P) (w := w) (a := a) (vs := xs) h w' hw
    rw [hl] at this
    exact this
theorem appP_core {c : Cx} (hc : CxOk c) {w : World} {base : Option Addr} {n cap m : Nat} {Src : List Value → Prop} {e : TypeId} {ei : TI} (hei : TIok c.P e ei) {N : Option Addr → Nat → World → Prop}
    (h : appP w base n cap m Src e ei.size ei.bytes ei.zero.toArray N) {ts : Array TypeId} {t ty : TypeId} {x : Value} (ht : ts[0]? = some t) (htd : c.P.underlying t = some (.slice e))
    (hx : ∀ xs, Src xs → xs.length = m * ei.size →
      ((∃ t1 d1, ts[1]? = some t1 ∧ c.P.underlying t1 = some d1 ∧ (d1 = .string ∨ ∃ e', d1 = .slice e')) ∧ (∀ w' : World, (Builtin.lenOf x).run c.P w' = .ok m w') ∧ ∀ w' : World, w'.heap = w.heap → (Builtin.firstCells ei.size m x).run c.P w' = .ok xs.toArray w')) :
    ∃ a c' w', (Builtin.append_ ts ty #[.slice base n cap, x]).run c.P w = .ok (.slice a (n + m) c') w' ∧ N a c' w' := by
  obtain ⟨xs, hl, hsrc, hin, hout⟩ := h
  obtain ⟨⟨t1, d1, ht1, hu1, hd1⟩, hlen, hfc⟩ := hx xs hsrc hl
  obtain ⟨inf, z, hinf, hz, hzc, hs, hb⟩ := hei.info
  have htu : ∀ w' : World, (underlying t).run c.P w' = .ok (.slice e) w' := fun w' => run_underlying htd w'
  have hsz : ∀ w' : World, (sizeOf e).run c.P w' = .ok ei.size w' := fun w' => by simp [sizeOf, typeInfo, hinf, hs]
  have htu1 : ∀ w' : World, (underlying t1).run c.P w' = .ok d1 w' := fun w' => run_underlying hu1 w'
  by_cases hroom : n + m ≤ cap
  · obtain ⟨hwr, hN⟩ := hin hroom
    refine ⟨_, _, _, ?_, hN _ rfl⟩
    have hf := hfc w rfl
    cases base with
    | none =>
      rcases hd1 with rfl | ⟨e', rfl⟩ <;> simp [Builtin.append_, ht, htu, hsz, ht1, htu1, hlen, hroom, hf, setO]
    | some a =>
      have hst := run_wr (P := c.P) hwr
      rw [add_block, add_off] at hst
      rcases hd1 with rfl | ⟨e', rfl⟩ <;> simp [Builtin.append_, ht, htu, hsz, ht1, htu1, hlen, hroom, hf, setO, hst]
  · have hg : cap < n + m := by omega
    obtain ⟨hbd, h63, olds, hlo, hcells, hN⟩ := hout hg
    have hcap : n + m ≤ grownCap w (n + m) cap e := grownCap_ge w _ _ e
    refine ⟨_, _, _, ?_, hN _ (grownCap w (n + m) cap e) _ rfl hcap rfl⟩
    have h63' : ¬ (9223372036854775807 < ((n : Int) + (m : Int))) := by omega
    have hfit := growslice_fits (need := n + m) (old := cap) (bytes := inf.bytes) hg (by rw [hb]; exact hbd)
    have h48' : ¬ (281474976710656 < Builtin.nextslicecap (n + m) cap * inf.bytes) := by omega
    have hf := hfc w.drew rfl
    have hfo := run_firstCells_O (P := c.P) (w := w) (w' := w.drew) rfl hcells (size := ei.size) (n := n) (len := n) (cap := cap) hlo
    have hti : ∀ w' : World, (typeInfo e).run c.P w' = .ok inf w' := fun w' => by simp [typeInfo, hinf]
    have hzv : ∀ w' : World, (zeroValue e).run c.P w' = .ok z w' := fun w' => by simp [zeroValue, typeInfo, hinf, hz]
    rcases hd1 with rfl | ⟨e', rfl⟩ <;> simp [Builtin.append_, ht, htu, hsz, ht1, htu1, hlen, hroom, hti, hzv, h63', h48', Question.forced, hf, hfo, newRow, grownCap, hzc]
    all_goals
      congr 2
      apply Array.ext'
      simp [List.append_assoc]
/-- The one made by append(x, make([]T, m)...). -/
def appzP (w : World) (base : Option Addr) (n cap m : Nat) (e : TypeId) (size bytes : Nat) (zero : Array Value) (N : Option Addr → Nat → World → Prop) : Prop :=
  (m : Int) * (bytes : Int) ≤ 281474976710656 ∧ (m : Int) ≤ 9223372036854775807 ∧ appP w base n cap m (fun xs => xs.toArray = Builtin.zeroCells zero m) e size bytes zero N
theorem appzP_core {c : Cx} (hc : CxOk c) {w : World} {base : Option Addr} {n cap m : Nat} {e : TypeId} {ei : TI} (hei : TIok c.P e ei) {N : Option Addr → Nat → World → Prop}
    (h : appzP w base n cap m e ei.size ei.bytes ei.zero.toArray N) {ts : Array TypeId} {t t1 ty : TypeId} {k1 : IntKind} (ht : ts[0]? = some t) (htd : c.P.underlying t = some (.slice e)) (ht1 : ts[1]? = some t1) (hu1 : c.P.underlying t1 = some (.int k1)) :
    ∃ a c' w', (∀ k : IntKind, (Builtin.append_ ts ty #[.slice base n cap, .int k (m : Int)]).run c.P w = .ok (.slice a (n + m) c') w') ∧ N a c' w' := by
  obtain ⟨hmb, hm63, xs, hl, hsrc, hin, hout⟩ := h
  obtain ⟨inf, z, hinf, hz, hzc, hs, hb⟩ := hei.info
  have htu : ∀ w' : World, (underlying t).run c.P w' = .ok (.slice e) w' := fun w' => run_underlying htd w'
  have htu1 : ∀ w' : World, (underlying t1).run c.P w' = .ok (.int k1) w' := fun w' => run_underlying hu1 w'
  have hsz : ∀ w' : World, (sizeOf e).run c.P w' = .ok ei.size w' := fun w' => by simp [sizeOf, typeInfo, hinf, hs]
  have hti : ∀ w' : World, (typeInfo e).run c.P w' = .ok inf w' := fun w' => by simp [typeInfo, hinf]
  have hzv : ∀ w' : World, (zeroValue e).run c.P w' = .ok z w' := fun w' => by simp [zeroValue, typeInfo, hinf, hz]
  have hwr : IntKind.i64.wrap (m : Int) = m := by rw [IntKind.wrap_i64]; omega
  have hm0 : ¬ ((m : Int) < 0) := by omega
  have hm48 : ¬ (281474976710656 < (m : Int) * (inf.bytes : Int)) := by rw [hb]; omega
  have hxs0 : m * ei.size = 0 → xs = [] := fun h0 => List.eq_nil_of_length_eq_zero (by rw [hl, h0])
  by_cases hroom : n + m ≤ cap
  · obtain ⟨hwrO, hN⟩ := hin hroom
    refine ⟨_, _, _, fun k => ?_, hN _ rfl⟩
    cases base with
    | none =>
      by_cases h0 : m * ei.size = 0
      · simp [Builtin.append_, ht, htu, hsz, ht1, htu1, asInt, asIntOf, hwr, hm0, hti, hm48, hroom, setO, h0]
      · simp [Builtin.append_, ht, htu, hsz, ht1, htu1, asInt, asIntOf, hwr, hm0, hti, hm48, hroom, setO, h0, hzv]
    | some a =>
      have hst := run_wr (P := c.P) hwrO
      rw [add_block, add_off] at hst
      by_cases h0 : m * ei.size = 0
      · have := hxs0 h0
        subst this
        simp [Builtin.append_, ht, htu, hsz, ht1, htu1, asInt, asIntOf, hwr, hm0, hti, hm48, hroom, setO, h0, hst]
      · have h2 : (storeCells (a.add (n * ei.size)) (Builtin.zeroCells ei.zero.toArray m).toList).run c.P w = .ok () (w.setCells a.block (a.off + n * ei.size) xs) := by rw [← hsrc]; exact hst
        simp [Builtin.append_, ht, htu, hsz, ht1, htu1, asInt, asIntOf, hwr, hm0, hti, hm48, hroom, setO, h0, hzv, hzc, h2]
  · have hg : cap < n + m := by omega
    obtain ⟨hbd, h63, olds, hlo, hcells, hN⟩ := hout hg
    have hcap : n + m ≤ grownCap w (n + m) cap e := grownCap_ge w _ _ e
    refine ⟨_, _, _, fun k => ?_, hN _ (grownCap w (n + m) cap e) _ rfl hcap rfl⟩
    have h63' : ¬ (9223372036854775807 < ((n : Int) + (m : Int))) := by omega
    have hfit := growslice_fits (need := n + m) (old := cap) (bytes := inf.bytes) hg (by rw [hb]; exact hbd)
    have h48' : ¬ (281474976710656 < Builtin.nextslicecap (n + m) cap * inf.bytes) := by omega
    have hfo := run_firstCells_O (P := c.P) (w := w) (w' := w.drew) rfl hcells (size := ei.size) (n := n) (len := n) (cap := cap) hlo
    by_cases h0 : m * ei.size = 0
    · have := hxs0 h0
      subst this
      simp [Builtin.append_, ht, htu, hsz, ht1, htu1, asInt, asIntOf, hwr, hm0, hti, hm48, hroom, hzv, h63', h48', Question.forced, hfo, newRow, grownCap, hzc, h0]
    · simp [Builtin.append_, ht, htu, hsz, ht1, htu1, asInt, asIntOf, hwr, hm0, hti, hm48, hroom, hzv, h63', h48', Question.forced, hfo, newRow, grownCap, hzc, h0, hsrc]
end Go.Dec
