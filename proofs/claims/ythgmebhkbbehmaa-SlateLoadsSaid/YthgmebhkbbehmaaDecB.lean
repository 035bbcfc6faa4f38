/- Reading operations of loaded code, second part: conversions, fields, indexes, loads, slices. Conditions: none; every theorem is over any program. -/
import Derived.Test.YthgmebhkbbehmaaDecA
namespace Go.Dec
set_option linter.unusedVariables false

/-! ### 5. Memory that is read -/
def CellsAt (w : World) (a : Addr) (vs : List Value) : Prop := ∀ j v, vs[j]? = some v → w.cell? (a.add j) = some v
def CellsO (w : World) (a : Option Addr) (vs : List Value) : Prop := match a with | none => vs = [] | some a => CellsAt w a vs
def strOf (ns : List Int) : ByteArray := ns.foldl (fun r n => r.push (UInt8.ofNat n.toNat)) ByteArray.empty
theorem cell_heap {w w' : World} (h : w'.heap = w.heap) (a : Addr) : w'.cell? a = w.cell? a := by simp only [World.cell?, h]

section
variable {P : Program} {H : Array Obj}
theorem gives_load {w : World} {a : Addr} {v : Value} (h : w.cell? a = some v) : Gives P (load a) w.heap v := fun w' hw' => by
  rw [run_load, cell_heap hw', h]
theorem gives_loadCells {w : World} {a : Addr} {vs : List Value} (h : CellsAt w a vs) : Gives P (loadCells a vs.length) w.heap vs.toArray := fun w' hw' =>
  run_loadCells_list w' a vs fun j v hv => by rw [cell_heap hw']; exact h j v hv

/-! ### 6. Parts of values -/
def partP (c : Cx) (t : TypeId) (cs : Array Value) (off : Nat) (K : Value → Prop) : Prop :=
  optP (tget c.tb t) fun i => cond (descAgg i.desc) (K (.agg (cs.extract off (off + i.size)))) (optP cs[off]? fun v => dTy i.desc v K)
theorem partP_sound {c : Cx} (hc : CxOk c) {t : TypeId} {cs : Array Value} {off : Nat} {K : Value → Prop} (h : partP c t cs off K) :
    ∃ v, Gives c.P (part t cs off) H v ∧ K v := by
  obtain ⟨i, hi, h⟩ := optP_inv h
  have hi := hc.ti hi
  cases hd : descAgg i.desc with
  | true =>
    rw [hd] at h
    refine ⟨_, fun w hw => ?_, h⟩
    unfold part
    rw [Sem.run_bind, hi.gives_agg w hw, Result.andThen_ok, hd, if_pos rfl, Sem.run_bind, hi.gives_size w hw]
    rfl
  | false =>
    rw [hd] at h
    obtain ⟨v, hv, h⟩ := optP_inv h
    refine ⟨v, fun w hw => ?_, dTy_inv h⟩
    unfold part
    rw [Sem.run_bind, hi.gives_agg w hw, Result.andThen_ok, hd]
    simp [hv]
def fieldP (c : Cx) (t : TypeId) (x : Value) (f : Nat) (K : Value → Prop) : Prop :=
  dA x fun cs => optP (tget c.tb t) fun i => match i.desc with
    | .struct fs => optP fs[f]? fun fld => partP c fld.type cs fld.offset K
    | _ => False
theorem fieldP_sound {c : Cx} (hc : CxOk c) {t : TypeId} {x : Value} {f : Nat} {K : Value → Prop} (h : fieldP c t x f K) :
    ∃ v, Gives c.P (Instr.field t x f) H v ∧ K v := by
  obtain ⟨cs, rfl, h⟩ := dA_inv h
  obtain ⟨i, hi, h⟩ := optP_inv h
  have hi := hc.ti hi
  split at h
  · rename_i fs hd
    obtain ⟨fld, hf, h⟩ := optP_inv h
    obtain ⟨v, hv, h⟩ := partP_sound hc (H := H) h
    refine ⟨v, fun w hw => ?_, h⟩
    unfold Instr.field
    rw [Sem.run_bind, hi.gives_u w hw, Result.andThen_ok, hd]
    simp [hf, asAgg, hv w hw]
  · exact h.elim
def indexP (c : Cx) (t : TypeId) (x ix : Value) (K : Value → Prop) : Prop :=
  match ix with
  | .int _ n => chk (decide (0 ≤ n)) (optP (tget c.tb t) fun i => match i.desc with
    | .array len e => dA x fun cs => chk (decide (n < (len : Int))) (optP (tget c.tb e) fun ei => partP c e cs (n.toNat * ei.size) K)
    | .string => dStr x fun s => optP s[n.toNat]? fun b => K (.int .u8 (b.toNat : Int))
    | _ => False)
  | _ => False
theorem indexP_sound {c : Cx} (hc : CxOk c) {t : TypeId} {x ix : Value} {K : Value → Prop} (h : indexP c t x ix K) :
    ∃ v, Gives c.P (Instr.index t x ix) H v ∧ K v := by
  unfold indexP at h
  split at h
  · rename_i k n
    obtain ⟨h0, h⟩ := chk_inv h
    have h0 := of_decide_eq_true h0
    obtain ⟨i, hi, h⟩ := optP_inv h
    have hi := hc.ti hi
    split at h
    · rename_i len e hd
      obtain ⟨cs, rfl, h⟩ := dA_inv h
      obtain ⟨h1, h⟩ := chk_inv h
      have h1 := of_decide_eq_true h1
      obtain ⟨ei, hei, h⟩ := optP_inv h
      have hei := hc.ti hei
      obtain ⟨v, hv, h⟩ := partP_sound hc (H := H) h
      refine ⟨v, fun w hw => ?_, h⟩
      unfold Instr.index
      simp only [asIntOf, pure_bind]
      rw [Sem.run_bind, hi.gives_u w hw, Result.andThen_ok, hd]
      simp only [h0, h1, and_self, if_true]
      rw [Sem.run_bind, hei.gives_size w hw, Result.andThen_ok, hv w hw]
    · rename_i hd
      obtain ⟨s, rfl, h⟩ := dStr_inv h
      obtain ⟨b, hb, h⟩ := optP_inv h
      refine ⟨_, fun w hw => ?_, h⟩
      unfold Instr.index
      simp only [asIntOf, pure_bind]
      rw [Sem.run_bind, hi.gives_u w hw, Result.andThen_ok, hd]
      simp [h0, hb]
    · exact h.elim
  · exact h.elim

/-! ### 7. Addresses -/
def faddrP (c : Cx) (t : TypeId) (x : Value) (f : Nat) (K : Value → Prop) : Prop :=
  dP x fun p => optP p fun a => optP (tget c.tb t) fun i => match i.desc with
    | .struct fs => optP fs[f]? fun fld => optP (tget c.tb fld.type) fun j => chk (decide (j.size ≠ 0)) (K (.pointer (some (a.add fld.offset))))
    | _ => False
theorem faddrP_sound {c : Cx} (hc : CxOk c) {t : TypeId} {x : Value} {f : Nat} {K : Value → Prop} (h : faddrP c t x f K) :
    ∃ v, Gives c.P (Instr.fieldAt t x f) H v ∧ K v := by
  obtain ⟨p, rfl, h⟩ := dP_inv h
  obtain ⟨a, rfl, h⟩ := optP_inv h
  obtain ⟨i, hi, h⟩ := optP_inv h
  have hi := hc.ti hi
  split at h
  · rename_i fs hd
    obtain ⟨fld, hf, h⟩ := optP_inv h
    obtain ⟨j, hj, h⟩ := optP_inv h
    have hj := hc.ti hj
    obtain ⟨h0, h⟩ := chk_inv h
    have h0 := of_decide_eq_true h0
    refine ⟨_, fun w hw => ?_, h⟩
    unfold Instr.fieldAt
    rw [Sem.run_bind, hi.gives_u w hw, Result.andThen_ok, hd]
    simp only [hf, Instr.sureAddr, pure_bind, fieldPlace]
    rw [Sem.run_bind, Sem.run_bind, hj.gives_size w hw]
    simp [h0]
  · exact h.elim
def iaddrP (c : Cx) (t : TypeId) (x ix : Value) (K : Value → Prop) : Prop :=
  match ix with
  | .int _ n => chk (decide (0 ≤ n)) (optP (tget c.tb t) fun i => match i.desc with
    | .array len e => dP x fun p => optP p fun a => chk (decide (n < (len : Int))) (optP (tget c.tb e) fun ei => K (.pointer (some (a.add (n.toNat * ei.size)))))
    | .slice e => dS x fun p len _ => chk (decide (n < (len : Int))) (optP p fun a => optP (tget c.tb e) fun ei => K (.pointer (some (a.add (n.toNat * ei.size)))))
    | _ => False)
  | _ => False
theorem iaddrP_sound {c : Cx} (hc : CxOk c) {t : TypeId} {x ix : Value} {K : Value → Prop} (h : iaddrP c t x ix K) :
    ∃ v, Gives c.P (Instr.indexAt t x ix) H v ∧ K v := by
  unfold iaddrP at h
  split at h
  · rename_i k n
    obtain ⟨h0, h⟩ := chk_inv h
    have h0 := of_decide_eq_true h0
    obtain ⟨i, hi, h⟩ := optP_inv h
    have hi := hc.ti hi
    split at h
    · rename_i len e hd
      obtain ⟨p, rfl, h⟩ := dP_inv h
      obtain ⟨a, rfl, h⟩ := optP_inv h
      obtain ⟨h1, h⟩ := chk_inv h
      have h1 := of_decide_eq_true h1
      obtain ⟨ei, hei, h⟩ := optP_inv h
      have hei := hc.ti hei
      refine ⟨_, fun w hw => ?_, h⟩
      unfold Instr.indexAt
      simp only [asIntOf, pure_bind]
      have hs := hei.gives_size w hw
      simp [hi.gives_u w hw, hd, Instr.sureAddr, h0, h1, hs]
    · rename_i e hd
      obtain ⟨p, len, cp, rfl, h⟩ := dS_inv h
      obtain ⟨h1, h⟩ := chk_inv h
      have h1 := of_decide_eq_true h1
      obtain ⟨a, rfl, h2⟩ := optP_inv h
      obtain ⟨ei, hei, h3⟩ := optP_inv h2
      have hei := hc.ti hei
      refine ⟨_, fun w hw => ?_, h3⟩
      unfold Instr.indexAt
      simp only [asIntOf, pure_bind]
      have hs := hei.gives_size w hw
      simp [hi.gives_u w hw, hd, Instr.sureAddr, h0, h1, hs]
    · exact h.elim
  · exact h.elim

/-! ### 8. Loads -/
def ldP (c : Cx) (t : TypeId) (x : Value) (w : World) (K : Value → Prop) : Prop :=
  dP x fun p => optP p fun a => optP (tget c.tb t) fun i => match i.desc with
    | .int k => ∃ n : Int, w.cell? a = some (.int k n) ∧ K (.int k n)
    | .bool => ∃ b : Bool, w.cell? a = some (.bool b) ∧ K (.bool b)
    | .string => ∃ s : ByteArray, w.cell? a = some (.string s) ∧ K (.string s)
    | .float _ => ∃ b : Nat, w.cell? a = some (.float .f64 b) ∧ K (.float .f64 b)
    | .complex _ => ∃ r m : Nat, w.cell? a = some (.complex .f64 r m) ∧ K (.complex .f64 r m)
    | .slice _ => ∃ (p : Option Addr) (n m : Nat), w.cell? a = some (.slice p n m) ∧ K (.slice p n m)
    | .pointer _ => ∃ p : Option Addr, w.cell? a = some (.pointer p) ∧ K (.pointer p)
    | .map _ _ => ∃ r : Option Nat, w.cell? a = some (.map r) ∧ K (.map r)
    | .struct _ => ∃ cs : Array Value, cs.size = i.size ∧ CellsAt w a cs.toList ∧ K (.agg cs)
    | .array _ _ => ∃ cs : Array Value, cs.size = i.size ∧ CellsAt w a cs.toList ∧ K (.agg cs)
    | .interface _ => ∃ v : Value, w.cell? a = some v ∧ K v
    | .func _ _ _ => ∃ v : Value, w.cell? a = some v ∧ K v
    | _ => False
theorem gives_loadAt_one {c : Cx} (hc : CxOk c) {t : TypeId} {i : TI} (hi : TIok c.P t i) (hd : descAgg i.desc = false) {w : World} {a : Addr} {v : Value} (h : w.cell? a = some v) :
    Gives c.P (Instr.loadAt t (.pointer (some a))) w.heap v := fun w' hw' => by
  have h2 := hi.gives_agg (H := w.heap) w' hw'
  rw [hd] at h2
  have h3 := gives_load (P := c.P) h w' hw'
  unfold Instr.loadAt
  simp only [Instr.sureAddr, pure_bind]
  unfold loadVar
  rw [Sem.run_bind, h2, Result.andThen_ok]
  exact h3
theorem gives_loadAt_row {c : Cx} (hc : CxOk c) {t : TypeId} {i : TI} (hi : TIok c.P t i) (hd : descAgg i.desc = true) {w : World} {a : Addr} {cs : Array Value} (hs : cs.size = i.size) (h : CellsAt w a cs.toList) :
    Gives c.P (Instr.loadAt t (.pointer (some a))) w.heap (.agg cs) := fun w' hw' => by
  have h2 := hi.gives_agg (H := w.heap) w' hw'
  rw [hd] at h2
  have h3 := gives_loadCells (P := c.P) h w' hw'
  have h4 := hi.gives_size (H := w.heap) w' hw'
  rw [Array.length_toList, hs] at h3
  unfold Instr.loadAt
  simp only [Instr.sureAddr, pure_bind]
  unfold loadVar
  rw [Sem.run_bind, h2, Result.andThen_ok, if_pos rfl, Sem.run_bind, h4, Result.andThen_ok, Sem.run_bind, h3]
  simp
theorem ldP_sound {c : Cx} (hc : CxOk c) {t : TypeId} {x : Value} {w : World} {K : Value → Prop} (h : ldP c t x w K) :
    ∃ v, Gives c.P (Instr.loadAt t x) w.heap v ∧ K v := by
  obtain ⟨p, rfl, h⟩ := dP_inv h
  obtain ⟨a, rfl, h⟩ := optP_inv h
  obtain ⟨i, hi, h⟩ := optP_inv h
  have hi := hc.ti hi
  split at h <;> rename_i hd <;> first
    | (obtain ⟨n, e, h⟩ := h; exact ⟨_, gives_loadAt_one hc hi (by rw [hd]; rfl) e, h⟩)
    | (obtain ⟨n, m, e, h⟩ := h; exact ⟨_, gives_loadAt_one hc hi (by rw [hd]; rfl) e, h⟩)
    | (obtain ⟨n, m, l, e, h⟩ := h; exact ⟨_, gives_loadAt_one hc hi (by rw [hd]; rfl) e, h⟩)
    | (obtain ⟨cs, hs, e, h⟩ := h; exact ⟨_, gives_loadAt_row hc hi (by rw [hd]; rfl) hs e, h⟩)
    | exact h.elim

/-! ### 9. Slices -/
def hiP (hi : Option Value) (len cap : Nat) (K : Nat → Prop) : Prop :=
  match hi with
  | none => K len
  | some (.int _ n) => chk (decide (0 ≤ n)) (chk (decide (n ≤ (cap : Int))) (K n.toNat))
  | _ => False
def loP (lo : Option Value) (h : Nat) (K : Nat → Prop) : Prop :=
  match lo with
  | none => K 0
  | some (.int _ n) => chk (decide (0 ≤ n)) (chk (decide (n ≤ (h : Int))) (K n.toNat))
  | _ => False
theorem bounds_sound {isS : Bool} {lo hi : Option Value} {len cap : Nat} {K : Nat → Nat → Prop} (h : hiP hi len cap fun h => loP lo h fun l => K l h) :
    ∃ l m, Gives P (Instr.sliceBounds isS len cap lo hi none) H (l, m, cap) ∧ K l m := by
  have hb : ∀ (k : IntKind) (n : Int) (y : Nat) (code : BoundsCode), 0 ≤ n → n ≤ (y : Int) → Gives P (Instr.sliceBound (.int k n) y code) H n.toNat := by
    intro k n y code h0 h1 w _
    simp [Instr.sliceBound, asIntOf, h0, h1]
  have key : ∀ {m : Nat}, loP lo m (fun l => K l m) → ∃ l, Gives P (match lo with | some v => Instr.sliceBound v m .sliceB | none => pure 0) H l ∧ K l m := by
    intro m h
    unfold loP at h
    split at h
    · exact ⟨0, Gives.pure _, h⟩
    · obtain ⟨h0, h⟩ := chk_inv h
      obtain ⟨h1, h⟩ := chk_inv h
      exact ⟨_, hb _ _ _ _ (of_decide_eq_true h0) (of_decide_eq_true h1), h⟩
    · exact h.elim
  have key2 : ∃ m, Gives P (match hi with | some v => Instr.sliceBound v cap (if isS then .sliceAcap else .sliceAlen) | none => pure len) H m ∧ loP lo m (fun l => K l m) := by
    unfold hiP at h
    split at h
    · exact ⟨len, Gives.pure _, h⟩
    · obtain ⟨h0, h⟩ := chk_inv h
      obtain ⟨h1, h⟩ := chk_inv h
      exact ⟨_, hb _ _ _ _ (of_decide_eq_true h0) (of_decide_eq_true h1), h⟩
    · exact h.elim
  obtain ⟨m, hm, h⟩ := key2
  obtain ⟨l, hl, h⟩ := key h
  refine ⟨l, m, fun w hw => ?_, h⟩
  have h1 := hm w hw
  have h2 := hl w hw
  unfold Instr.sliceBounds
  cases hi <;> cases lo <;> simp_all [Sem.run_bind]
def slA (a : Option Addr) (m l s : Nat) : Option Addr := if m = l then a else a.map (·.add (l * s))
def slaceP (c : Cx) (t : TypeId) (x : Value) (lo hi : Option Value) (K : Value → Prop) : Prop :=
  optP (tget c.tb t) fun i => match i.desc with
    | .string => dStr x fun s => hiP hi s.size s.size fun h => loP lo h fun l => K (.string (s.extract l h))
    | .slice e => dS x fun a len cap => optP (tget c.tb e) fun ei => hiP hi len cap fun h => loP lo h fun l => K (.slice (slA a cap l ei.size) (h - l) (cap - l))
    | .array n e => dP x fun p => optP p fun a => optP (tget c.tb e) fun ei => hiP hi n n fun h => loP lo h fun l => K (.slice (slA (some a) n l ei.size) (h - l) (n - l))
    | _ => False
theorem slaceP_sound {c : Cx} (hc : CxOk c) {t : TypeId} {x : Value} {lo hi : Option Value} {K : Value → Prop} (h : slaceP c t x lo hi K) :
    ∃ v, Gives c.P (Instr.sliceAt t x lo hi none) H v ∧ K v := by
  obtain ⟨i, hi, h⟩ := optP_inv h
  have hi := hc.ti hi
  split at h
  · rename_i hd
    obtain ⟨s, rfl, h2⟩ := dStr_inv h
    obtain ⟨l, m, hb, h3⟩ := bounds_sound (P := c.P) (H := H) (isS := false) h2
    refine ⟨_, fun w hw => ?_, h3⟩
    have h1 := hi.gives_u w hw
    rw [hd] at h1
    have h2 := hb w hw
    unfold Instr.sliceAt
    rw [Sem.run_bind, h1, Result.andThen_ok]
    dsimp only
    unfold Instr.slice
    rw [Sem.run_bind, h1, Result.andThen_ok]
    simp [h2]
  · rename_i e hd
    obtain ⟨a, len, cap, rfl, h⟩ := dS_inv h
    obtain ⟨ei, hei, h⟩ := optP_inv h
    have hei := hc.ti hei
    obtain ⟨l, m, hb, h⟩ := bounds_sound (P := c.P) (H := H) (isS := true) h
    refine ⟨_, fun w hw => ?_, h⟩
    have h1 := hi.gives_u w hw
    rw [hd] at h1
    have h2 := hb w hw
    have h3 := hei.gives_size w hw
    unfold Instr.sliceAt
    rw [Sem.run_bind, h1, Result.andThen_ok]
    dsimp only
    unfold Instr.slice
    rw [Sem.run_bind, h1, Result.andThen_ok]
    simp [h2, h3, slA]
  · rename_i n e hd
    obtain ⟨p, rfl, h⟩ := dP_inv h
    obtain ⟨a, rfl, h⟩ := optP_inv h
    obtain ⟨ei, hei, h⟩ := optP_inv h
    have hei := hc.ti hei
    obtain ⟨l, m, hb, h⟩ := bounds_sound (P := c.P) (H := H) (isS := false) h
    refine ⟨_, fun w hw => ?_, h⟩
    have h1 := hi.gives_u w hw
    rw [hd] at h1
    have h2 := hb w hw
    have h3 := hei.gives_size w hw
    unfold Instr.sliceAt
    rw [Sem.run_bind, h1, Result.andThen_ok]
    simp only [Instr.sureAddr, pure_bind, Sem.run_bind, h2, h3, Result.andThen_ok, slA]
    by_cases hml : n = l <;> simp [hml]
  · exact h.elim

/-- a slice with three indexes -/
def slace3P (c : Cx) (t : TypeId) (x : Value) (lo : Option Value) (hi mx : Value) (K : Value → Prop) : Prop :=
  optP (tget c.tb t) fun i => match i.desc with
    | .slice e => dS x fun a len cap => optP (tget c.tb e) fun ei => loP (some mx) cap fun m => loP (some hi) m fun h => loP lo h fun l => K (.slice (slA a m l ei.size) (h - l) (m - l))
    | _ => False
theorem loP_some {v : Value} {n : Nat} {K : Nat → Prop} (h : loP (some v) n K) : ∃ m, (∀ code, Gives P (Instr.sliceBound v n code) H m) ∧ K m := by
  unfold loP at h
  split at h
  · rename_i e; cases e
  · rename_i k j e
    cases e
    obtain ⟨h0, h⟩ := chk_inv h
    obtain ⟨h1, h⟩ := chk_inv h
    have h0 := of_decide_eq_true h0
    have h1 := of_decide_eq_true h1
    exact ⟨_, fun code w _ => by simp [Instr.sliceBound, asIntOf, h0, h1], h⟩
  · exact h.elim
theorem slace3P_sound {c : Cx} (hc : CxOk c) {t : TypeId} {x : Value} {lo : Option Value} {hi mx : Value} {K : Value → Prop} (h : slace3P c t x lo hi mx K) :
    ∃ v, Gives c.P (Instr.sliceAt t x lo (some hi) (some mx)) H v ∧ K v := by
  obtain ⟨i, hi', h⟩ := optP_inv h
  have hi' := hc.ti hi'
  split at h
  · rename_i e hd
    obtain ⟨a, len, cap, rfl, h⟩ := dS_inv h
    obtain ⟨ei, hei, h⟩ := optP_inv h
    have hei := hc.ti hei
    obtain ⟨m, hm, h⟩ := loP_some (P := c.P) (H := H) h
    obtain ⟨hh, hhh, h⟩ := loP_some (P := c.P) (H := H) h
    have hlo : ∃ l, (∀ w : World, w.heap = H → (match lo with | some v => Instr.sliceBound v hh .slice3C | none => pure 0).run c.P w = .ok l w) ∧ K (.slice (slA a m l ei.size) (hh - l) (m - l)) := by
      cases lo with
      | none => exact ⟨0, fun w _ => by simp, h⟩
      | some v =>
        obtain ⟨l, hl, h⟩ := loP_some (P := c.P) (H := H) h
        exact ⟨l, fun w hw => hl _ w hw, h⟩
    obtain ⟨l, hl, h⟩ := hlo
    refine ⟨_, fun w hw => ?_, h⟩
    have h1 := hi'.gives_u w hw
    rw [hd] at h1
    have h2 := hm .slice3Acap w hw
    have h3 := hei.gives_size w hw
    have h4 := hhh .slice3B w hw
    have h5 := hl w hw
    unfold Instr.sliceAt
    rw [Sem.run_bind, h1, Result.andThen_ok]
    dsimp only
    unfold Instr.slice
    rw [Sem.run_bind, h1, Result.andThen_ok]
    unfold Instr.sliceBounds
    cases lo <;> simp_all [slA, Sem.run_bind]
  · exact h.elim

/-! ### 10. Conversions -/
def f2iP (k : IntKind) (b : Nat) (K : Value → Prop) : Prop :=
  optP ((FloatKind.f64.decode b).toInt .zero) fun n => chk (decide (k.min ≤ n)) (chk (decide (n ≤ k.max)) (K (.int k n)))
def strP (w : World) (a : Option Addr) (n : Nat) (K : Value → Prop) : Prop :=
  ∃ ns : List Int, ns.length = n ∧ CellsO w a (ns.map (Value.int .u8)) ∧ K (.string (strOf ns))
def convP (c : Cx) (s d : TypeId) (x : Value) (w : World) (K : Value → Prop) : Prop :=
  optP (tget c.tb s) fun i => optP (tget c.tb d) fun j => match j.desc with
    | .int k => (match x with
      | .int _ n => K (.int k (k.wrap n))
      | .float .f64 b => f2iP k b K
      | _ => False)
    | .float .f64 => (match x with
      | .int _ n => K (.float .f64 (FloatKind.f64.nearest n))
      | _ => False)
    | .string => (match i.desc with
      | .slice e => optP (tget c.tb e) fun ei => (match ei.desc with
        | .int .u8 => dS x fun a n _ => strP w a n K
        | _ => False)
      | .string => dStr x fun s => K (.string s)
      | _ => False)
    | _ => False
theorem convP_sound {c : Cx} (hc : CxOk c) {s d : TypeId} {x : Value} {w : World} {K : Value → Prop} (h : convP c s d x w K) :
    ∃ v, Gives c.P (convert s d x) w.heap v ∧ K v := by
  obtain ⟨i, hi, h⟩ := optP_inv h
  have hi := hc.ti hi
  obtain ⟨j, hj, h⟩ := optP_inv h
  have hj := hc.ti hj
  split at h
  · rename_i k hd
    split at h
    · rename_i k' n
      refine ⟨_, fun w' hw => ?_, h⟩
      unfold convert
      rw [Sem.run_bind, hi.gives_u w' hw, Result.andThen_ok, Sem.run_bind, hj.gives_u w' hw, Result.andThen_ok, hd]
      cases i.desc <;> rfl
    · rename_i bb hA hB
      obtain ⟨n, hn, h⟩ := optP_inv h
      obtain ⟨h0, h⟩ := chk_inv h
      obtain ⟨h1, h⟩ := chk_inv h
      refine ⟨_, fun w' hw => ?_, h⟩
      unfold convert
      rw [Sem.run_bind, hi.gives_u w' hw, Result.andThen_ok, Sem.run_bind, hj.gives_u w' hw, Result.andThen_ok, hd]
      have h0 := of_decide_eq_true h0
      have h1 := of_decide_eq_true h1
      have e : (Conv.floatToInt .f64 bb k).run c.P w' = .ok (.int k n) w' := by
        simp [Conv.floatToInt, hn, h0, h1]
      cases i.desc <;> exact e
    · exact h.elim
  · rename_i hd
    split at h
    · rename_i k' n
      refine ⟨_, fun w' hw => ?_, h⟩
      unfold convert
      rw [Sem.run_bind, hi.gives_u w' hw, Result.andThen_ok, Sem.run_bind, hj.gives_u w' hw, Result.andThen_ok, hd]
      cases i.desc <;> rfl
    · exact h.elim
  · rename_i hd
    split at h
    · rename_i e hs
      obtain ⟨ei, hei, h⟩ := optP_inv h
      have hei := hc.ti hei
      split at h
      · rename_i he
        obtain ⟨a, n, cp, rfl, ns, hl, hcs, h⟩ := dS_inv h
        refine ⟨_, fun w' hw => ?_, h⟩
        have hu1 : c.P.underlying s = some (.slice e) := by rw [hi.1, hs]
        have hu2 : c.P.underlying e = some (.int .u8) := by rw [hei.1, he]
        have hu3 : c.P.underlying d = some .string := by rw [hj.1, hd]
        rw [run_convert_bytes_string w' s d e a n cp hu1 hu2 hu3]
        cases a with
        | none =>
          have : ns = [] := by simpa [CellsO] using hcs
          subst this
          rfl
        | some a =>
          refine run_bytesToString w' a n cp ns ?_
          have := gives_loadCells (P := c.P) (w := w) (a := a) (vs := ns.map (Value.int .u8)) hcs w' hw
          rwa [List.length_map, hl] at this
      · exact h.elim
    · rename_i hs
      obtain ⟨s', rfl, h⟩ := dStr_inv h
      refine ⟨_, fun w' hw => ?_, h⟩
      unfold convert
      rw [Sem.run_bind, hi.gives_u w' hw, Result.andThen_ok, Sem.run_bind, hj.gives_u w' hw, Result.andThen_ok, hd, hs]
      rfl
    · exact h.elim
  · exact h.elim
end
end Go.Dec
