/- The operations of loaded code as one computed statement, and lists of them. Conditions: none; every theorem is over any program. -/
import Derived.Test.YthgmebhkbbehmaaDecD
namespace Go.Dec
set_option linter.unusedVariables false
set_option linter.unusedSimpArgs false

/-! ### 15. copy, composite literals, strings as bytes -/
def copyP (w : World) (d : Option Addr) (dn : Nat) (s : Option Addr) (sn : Nat) (size : Nat) (N : World → Prop) : Prop :=
  ∃ xs : List Value, xs.length = Nat.min sn dn * size ∧ CellsO w s xs ∧ WrO w d 0 xs ∧ ∀ w', w' = setO w d 0 xs → N w'
theorem copyP_sound {c : Cx} (hc : CxOk c) {w : World} {d s : Option Addr} {dn dc sn sc : Nat} {e : TypeId} {ei : TI} (hei : TIok c.P e ei) {N : World → Prop}
    (h : copyP w d dn s sn ei.size N) {ts : Array TypeId} {t ty : TypeId} (ht : ts[0]? = some t) (htd : c.P.underlying t = some (.slice e)) :
    ∃ w', (Builtin.copy_ ts ty #[.slice d dn dc, .slice s sn sc]).run c.P w = .ok (.int .i64 ((Nat.min sn dn : Nat) : Int)) w' ∧ N w' := by
  obtain ⟨xs, hl, hcs, hwr, hN⟩ := h
  have htu : ∀ w' : World, (underlying t).run c.P w' = .ok (.slice e) w' := fun w' => run_underlying htd w'
  have hsz : ∀ w' : World, (sizeOf e).run c.P w' = .ok ei.size w' := fun w' => hei.gives_size (H := w'.heap) w' rfl
  have hf := run_firstCells_O (P := c.P) (w := w) (w' := w) rfl hcs (size := ei.size) (n := Nat.min sn dn) (len := sn) (cap := sc) hl
  refine ⟨_, ?_, hN _ rfl⟩
  cases d with
  | none => simp [Builtin.copy_, ht, htu, hsz, Builtin.lenOf, hf, setO, goInt]
  | some a =>
    have hst := run_wr (P := c.P) hwr
    rw [add_block, add_off] at hst
    have e0 : a.add 0 = a := Addr.add_zero' a
    rw [e0] at hst
    simp [Builtin.copy_, ht, htu, hsz, Builtin.lenOf, hf, setO, goInt, hst]
def bsP (c : Cx) (t : TypeId) (len : Nat) (ps : List (Nat × Value)) (w : World) (N : Value → World → Prop) : Prop :=
  optP (tget c.tb t) fun i => match i.desc with
    | .slice e => optP (tget c.tb e) fun ei => chk (decide (len * ei.size ≤ 16777216)) (optP (Instr.fill (fun i => some (i * ei.size, ei.size)) (madeCells ei.zero.toArray (len * ei.size)) ps) fun cs =>
        newP w cs e fun b w' => N (.slice (some ⟨b, 0, none⟩) len len) w')
    | _ => False
theorem bsP_sound {c : Cx} (hc : CxOk c) {t : TypeId} {len : Nat} {ps : Array (Nat × Value)} {w : World} {N : Value → World → Prop} (h : bsP c t len ps.toList w N) :
    ∃ v w', (Instr.buildSlice t len ps).run c.P w = .ok v w' ∧ N v w' := by
  obtain ⟨i, hi, h⟩ := optP_inv h
  have hi := hc.ti hi
  split at h
  · rename_i e hd
    obtain ⟨ei, hei, h⟩ := optP_inv h
    have hei := hc.ti hei
    obtain ⟨h0, h⟩ := chk_inv h
    have h0 : ¬ 16777216 < len * ei.size := by have := of_decide_eq_true h0; omega
    obtain ⟨cs, hcs, h⟩ := optP_inv h
    refine ⟨_, _, ?_, h _ _ rfl rfl⟩
    obtain ⟨z, hz, hzc⟩ := hei.gives_zero (H := w.heap)
    have hz := hz w rfl
    have hu := hi.gives_u (H := w.heap) w rfl
    rw [hd] at hu
    have hsz := hei.gives_size (H := w.heap) w rfl
    unfold Instr.buildSlice
    rw [Sem.run_bind, hu, Result.andThen_ok]
    dsimp only
    rw [Sem.run_bind, hsz, Result.andThen_ok]
    simp only [show (2 : Nat) ^ 24 = 16777216 from rfl, gt_iff_lt, h0, if_false, pure_bind]
    by_cases hn : len * ei.size = 0
    · have e1 : madeCells ei.zero.toArray (len * ei.size) = (Array.range (len * ei.size)).map fun i => (#[] : Array Value)[i % (#[] : Array Value).size]! := by
        simp [madeCells, hn]
      rw [e1] at hcs
      simp only [hn, if_true, pure_bind]
      rw [hn] at hcs
      rw [hcs]
      simp [newRow]
    · have e1 : madeCells ei.zero.toArray (len * ei.size) = (Array.range (len * ei.size)).map fun i => z.cells[i % z.cells.size]! := by
        simp [madeCells, hzc]
      rw [e1] at hcs
      simp only [hn, if_false]
      rw [Sem.run_bind, hz, Result.andThen_ok, hcs]
      simp [newRow]
  · exact h.elim
def byteVals (s : ByteArray) : List Value := s.data.toList.map fun b => Value.int .u8 (b.toNat : Int)
/-- []byte(s): a row of its own, of some capacity; behind its cells one place is marked. -/
def sbP (w : World) (e : TypeId) (s : ByteArray) (N : Nat → Nat → World → Prop) : Prop :=
  ∀ b cap w', b = w.heap.size → s.size ≤ cap → w' = w.drew.alloc (.cells (byteVals s ++ List.replicate (cap - s.size) (Value.int .u8 0)).toArray e (cap, cap + 1)) → N b cap w'
theorem sbP_sound {c : Cx} (hc : CxOk c) {s d : TypeId} {e : TypeId} {ei : TI} (hd : c.P.underlying d = some (.slice e)) (he : c.P.underlying e = some (.int .u8)) (hs : c.P.underlying s = some .string)
    {x : ByteArray} {w : World} {N : Nat → Nat → World → Prop} (h : sbP w e x N) : ∃ b cap w', (convert s d (.string x)).run c.P w = .ok (.slice (some ⟨b, 0, none⟩) x.size cap) w' ∧ N b cap w' := by
  have hcap : x.size ≤ grownCap w x.size 0 e := grownCap_ge w _ _ e
  refine ⟨_, _, _, ?_, h _ (grownCap w x.size 0 e) _ rfl hcap rfl⟩
  have e1 : (convert s d (.string x)).run c.P w = (Conv.stringToBytes e x).run c.P w := by
    simp [convert, run_underlying hs, run_underlying hd, run_underlying he]
  rw [e1]
  have e2 : (Array.map (fun b : UInt8 => Value.int .u8 (b.toNat : Int)) x.data ++ Array.replicate (grownCap w x.size 0 e - x.size) (Value.int .u8 0)) = (byteVals x ++ List.replicate (grownCap w x.size 0 e - x.size) (Value.int .u8 0)).toArray := by
    apply Array.ext'
    simp [byteVals]
  have e4 : (byteVals x ++ List.replicate (grownCap w x.size 0 e - x.size) (Value.int .u8 0)).toArray.size = grownCap w x.size 0 e := by
    have : x.data.size = x.size := rfl
    simp [byteVals, this]
    omega
  unfold Conv.stringToBytes
  simp only [Sem.run_bind, choose, Sem.run, Question.forced, Bool.false_eq_true, if_false, Sem.run_pure', Result.andThen_ok]
  show ((newRow e (Array.map (fun b : UInt8 => Value.int .u8 (b.toNat : Int)) x.data ++ Array.replicate (grownCap w x.size 0 e - x.size) (Value.int .u8 0))).run c.P w.drew).andThen _ = _
  rw [e2]
  simp only [newRow, newObj, Sem.run_bind, Sem.run, Sem.run_pure, Result.andThen_ok]
  unfold markStringish
  simp only [Sem.run_bind, shape, Sem.run, Sem.run_pure', Result.andThen_ok]
  have e5 : World.shape? { w.drew with heap := w.drew.heap.push (.cells (byteVals x ++ List.replicate (grownCap w x.size 0 e - x.size) (Value.int .u8 0)).toArray e (0, 0)) } w.drew.heap.size = some (e, grownCap w x.size 0 e) := by
    simp only [World.shape?, Array.getElem?_push_size]
    rw [e4]
  rw [e5]
  simp only [freeze, Sem.run, Sem.run_pure', Result.andThen_ok, Sem.run_pure]
  congr 1
  unfold World.freeze
  rw [if_neg (by decide)]
  simp only [World.alloc]
  congr 1
  apply Array.ext_getElem?
  intro i
  rw [Array.getElem?_modify]
  have hsize : w.drew.heap.size = w.heap.size := rfl
  rcases Nat.lt_trichotomy i w.drew.heap.size with hi | hi | hi
  · rw [if_neg (by show ¬ w.drew.heap.size = i; omega), Array.getElem?_push, if_neg (by omega), Array.getElem?_push, if_neg (by omega)]
  · subst hi
    rw [if_pos rfl, Array.getElem?_push_size]
    show _ = (w.heap.push _)[w.heap.size]?
    rw [Array.getElem?_push_size]
    simp
  · rw [if_neg (by show ¬ w.drew.heap.size = i; omega), Array.getElem?_push, if_neg (by omega), Array.getElem?_push, if_neg (by omega)]
/-- A literal's row is marked, one place behind its cells. -/
def markP (w : World) (a : Addr) (N : World → Prop) : Prop :=
  ∃ (cur : Array Value) (e : TypeId) (fr : Nat × Nat), w.heap[a.block]? = some (.cells cur e fr) ∧ ∀ w', w' = w.freeze ⟨a.block, cur.size, none⟩ 1 → N w'
theorem markP_sound {c : Cx} {d : TypeId} {e : TypeId} (hd : c.P.underlying d = some (.slice e)) (he : c.P.underlying e = some (.int .u8)) {a : Addr} {n m : Nat} {w : World} {N : World → Prop} (h : markP w a N) :
    ∃ w', (convert d d (.slice (some a) n m)).run c.P w = .ok (.slice (some a) n m) w' ∧ N w' := by
  obtain ⟨cur, e', fr, hb, h⟩ := h
  refine ⟨_, ?_, h _ rfl⟩
  have hsh : w.shape? a.block = some (e', cur.size) := by
    unfold World.shape?
    rw [hb]
  simp [convert, run_underlying hd, run_underlying he, markStringish, hsh]
end Go.Dec
