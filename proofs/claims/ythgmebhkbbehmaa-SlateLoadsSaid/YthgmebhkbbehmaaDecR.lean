/-
  Readings of arguments and the frame round a law's walk: helper lemmas, over any program; nothing is claimed here.
-/
import Derived.Test.YthgmebhkbbehmaaDecU
import Derived.ProofKit
import Derived.OpenShut
import Derived.ChangeOld
import Derived.SizedLaws
import Derived.JoinedCond
import Derived.Carry
import Derived.Lib.SmallJoins
namespace Go.Dec
open Go.ChangeShapes Go.WideShapes Go.ChangeAt Go.RowKit Go.Deep
set_option linter.unusedVariables false
set_option linter.unusedSectionVars false

section
variable {H : Type} {enc : TypeId × Value → H} {P : Program}

/-- all arguments read behind the call as before -/
theorem trodAll_below (hl : laidOutB P = true) {W W' : World} (hb : Below W.heap.size W W') : ∀ (ts : List TypeId) (vs : List Value) (ds : List (DataW H)) (ps : List MemPlace),
    (ts.all fun t => P.readableRec t && decide (t < P.types.size)) = true →
    DataW.TrodAll enc P W 0 (fun _ => true) true ts vs ds ps → (∀ x ∈ ps, x.block < W.heap.size) → DataW.TrodAll enc P W' 0 (fun b => decide (b < W.heap.size)) true ts vs ds ps
  | [], vs, ds, ps, _, h, _ => by
    cases vs <;> cases ds <;> simp [DataW.TrodAll] at h ⊢
    exact h
  | t :: ts, vs, ds, ps, ha, h, hlt => by
    obtain ⟨v, vs', d, ds', p, q, rfl, rfl, rfl, h0, h1⟩ := trodAll_cons h
    simp only [List.all_cons, Bool.and_eq_true, decide_eq_true_eq] at ha
    exact ⟨p, q, Below.trod hl ha.1.1 ha.1.2 h0 hb (fun x hx => hlt x (List.mem_append_left _ hx)),
      trodAll_below hl hb ts vs' ds' q (by simpa using ha.2) h1 (fun x hx => hlt x (List.mem_append_right _ hx)), rfl⟩

theorem trodAll_lt {W : World} {base : Nat} {sp : Nat → Bool} {hd : Bool} : ∀ (ts : List TypeId) (vs : List Value) (ds : List (DataW H)) (ps : List MemPlace),
    DataW.TrodAll enc P W base sp hd ts vs ds ps → ∀ x ∈ ps, x.block < W.heap.size
  | [], vs, ds, ps, h => by
    cases vs <;> cases ds <;> simp [DataW.TrodAll] at h
    subst h; simp
  | t :: ts, vs, ds, ps, h => by
    obtain ⟨v, vs', d, ds', p, q, rfl, rfl, rfl, h0, h1⟩ := trodAll_cons h
    intro x hx
    rcases List.mem_append.1 hx with h | h
    · obtain ⟨m, hm⟩ := h0
      exact DataW.trod_lt m _ _ _ hm x h
    · exact trodAll_lt ts vs' ds' q h1 x h

/-- how much room a slice's reading takes -/
def Room (d : DataW H) (cap : Nat) : Prop := (d = .nil ∧ cap = 0) ∨ ∃ e s, d = .slice e s ∧ e.length + s.length = cap

theorem Room.sized {ts : List TypeId} {ds : List (DataW H)} (h : (DataW.weightsEach P ts ds).all (· ≤ reachBytes) = true) {j : Nat} {t e : TypeId} {d : DataW H} {cap : Nat} (hr : Room d cap) (ht : ts[j]? = some t) (hd : ds[j]? = some d)
    (hu : P.underlying t = some (.slice e)) (b : Nat) (hb : P.bytesOf e = b) : cap * b ≤ 140737488351232 := by
  subst hb
  rcases hr with ⟨rfl, rfl⟩ | ⟨el, sp, rfl, rfl⟩
  · simp
  · exact sized_slice h ht hd hu

/-- a row of numbers that came in -/
structure Ints (k : IntKind) (w : World) (a : Option Addr) (len cap : Nat) (xs : List Int) : Prop where
  cells : CellsO w a (xs.map (.int k))
  size : xs.length = len
  room : len ≤ cap
  most : cap ≤ maxLen
  wf : ∀ x ∈ xs, (Lit.int k x).wf = true
  lt : ∀ x, a = some x → 0 < cap → x.block < w.heap.size
  nil : a = none → cap = 0

theorem arg_ints {t e : TypeId} {k : IntKind} (ht : P.underlying t = some (.slice e)) (he : P.underlying e = some (.int k)) (hc : P.cellsOf e = 1) {W : World} {b0 : Nat} {v : Value} {d : DataW H} {ps : List MemPlace} (hval : Value.okWide P W .any b0 t v)
    (hd : DataW.Trod enc P W 0 (fun _ => true) true t v d ps) : ∃ a len cap xs, v = .slice a len cap ∧ Ints k W a len cap xs ∧ Room d cap := by
  obtain ⟨a, len, cap, rfl⟩ := okWide_slice ht hval
  have lt : ∀ x ∈ ps, x.block < W.heap.size := by obtain ⟨m, hm⟩ := hd; exact DataW.trod_lt m _ _ _ hm
  obtain ⟨fuel, hf⟩ := hd
  rcases open_ints ht he hc hf with ⟨hcs, hx⟩ | ⟨x, l, c, zs, hcs, _, hl, hm, hz, hx, hcell, hwz⟩
  · simp [Value.cells] at hcs
    obtain ⟨rfl, rfl, rfl⟩ := hcs
    simp only [Prod.mk.injEq] at hx
    exact ⟨none, 0, 0, [], rfl, ⟨rfl, rfl, Nat.le_refl _, Nat.zero_le _, (by simp), (fun x h => by cases h), fun _ => rfl⟩, .inl ⟨hx.1, rfl⟩⟩
  · simp [Value.cells] at hcs
    obtain ⟨rfl, rfl, rfl⟩ := hcs
    simp only [Prod.mk.injEq] at hx
    simp only [if_true] at hz
    refine ⟨_, _, _, zs.take len, rfl, ⟨?_, ?_, hl, hm, fun y hy => hwz y (List.mem_of_mem_take hy), ?_, fun h => by cases h⟩, .inr ⟨_, _, hx.1, by simp [lits]; omega⟩⟩
    · intro j y hy
      rw [List.getElem?_map, List.getElem?_take] at hy
      split at hy
      · rw [Option.map_eq_some_iff] at hy
        obtain ⟨n, hn, rfl⟩ := hy
        rw [hcell j (List.getElem?_eq_some_iff.1 hn).1]
        simp [List.getD, hn]
      · simp at hy
    · rw [List.length_take]; omega
    · intro y hy h0
      injection hy with hy
      subst hy
      have := hcell 0 (by omega)
      exact block_lt (by simpa [Addr.add] using this)

/-- a number that came in -/
theorem arg_int {t : TypeId} {k : IntKind} (ht : P.underlying t = some (.int k)) {W : World} {b0 : Nat} {v : Value} {d : DataW H} {ps : List MemPlace} (hval : Value.okWide P W .any b0 t v)
    (hd : DataW.Trod enc P W 0 (fun _ => true) true t v d ps) : ∃ n, v = .int k n ∧ (Lit.int k n).wf = true := by
  obtain ⟨n, h, _, _, hw⟩ := open_int ht hval hd
  exact ⟨n, h, hw⟩

/-- two numbers that came in as a struct -/
theorem arg_pair {t : TypeId} {f0 f1 : Field} {k0 k1 : IntKind} (hs : P.underlying t = some (.struct #[f0, f1])) (hone : oneCellFields P #[f0, f1] = true) (hC : P.cellsOf t = 2) (h0 : P.underlying f0.type = some (.int k0)) (h1 : P.underlying f1.type = some (.int k1))
    {W : World} {b0 : Nat} {v : Value} {d : DataW H} {ps : List MemPlace} (hval : Value.okWide P W .any b0 t v) (hd : DataW.Trod enc P W 0 (fun _ => true) true t v d ps) :
    ∃ a b, v = .agg #[.int k0 a, .int k1 b] ∧ (Lit.int k0 a).wf = true ∧ (Lit.int k1 b).wf = true := by
  obtain ⟨v0, v1, y0, y1, n, rfl, _, _, t0, t1⟩ := Go.Joins.open_agg2 hs hone hC hval hd
  obtain ⟨a, ha, _, wa⟩ := DataW.trod_int h0 t0
  obtain ⟨b, hb, _, wb⟩ := DataW.trod_int h1 t1
  simp only [List.cons.injEq, and_true] at ha hb
  subst ha; subst hb
  exact ⟨a, b, rfl, wa, wb⟩
theorem wf_i64' {n : Int} (h : (Lit.int .i64 n).wf = true) : -9223372036854775808 ≤ n ∧ n ≤ 9223372036854775807 := by simpa [Lit.wf, IntKind.min, IntKind.max, IntKind.signed, IntKind.bits] using h
theorem wf_u8' {n : Int} (h : (Lit.int .u8 n).wf = true) : 0 ≤ n ∧ n < 256 := by
  have : 0 ≤ n ∧ n ≤ 255 := by simpa [Lit.wf, IntKind.min, IntKind.max, IntKind.signed, IntKind.bits] using h
  omega
theorem wf_u16' {n : Int} (h : (Lit.int .u16 n).wf = true) : 0 ≤ n ∧ n < 65536 := by
  have : 0 ≤ n ∧ n ≤ 65535 := by simpa [Lit.wf, IntKind.min, IntKind.max, IntKind.signed, IntKind.bits] using h
  omega
theorem wf_u32' {n : Int} (h : (Lit.int .u32 n).wf = true) : 0 ≤ n ∧ n < 4294967296 := by
  have : 0 ≤ n ∧ n ≤ 4294967295 := by simpa [Lit.wf, IntKind.min, IntKind.max, IntKind.signed, IntKind.bits] using h
  omega

/-- a truth value that came in -/
theorem arg_bool {t : TypeId} (ht : P.underlying t = some .bool) {W : World} {b0 : Nat} {v : Value} (hval : Value.okWide P W .any b0 t v) : ∃ b, v = .bool b := by
  simp only [Value.okWide, ht, Cell.okWide] at hval
  cases v <;> simp_all [Cell.ok]

end

/-! ### Letters -/
/-- a byte's number as a letter -/
def letter (n : Int) : UInt8 := UInt8.ofNat n.toNat
theorem strOf_data (ns : List Int) : (strOf ns).toList = ns.map letter := by
  rw [ByteArray.toList_eq]
  have key : ∀ (l : List Int) (b : ByteArray), (l.foldl (fun r n => r.push (UInt8.ofNat n.toNat)) b).data.toList = b.data.toList ++ l.map letter := by
    intro l
    induction l with
    | nil => intro b; simp
    | cons x r ih => intro b; rw [List.foldl_cons, ih]; simp [ByteArray.push, letter]
  rw [strOf, key]
  simp
theorem letter_toNat {n : Int} (h0 : 0 ≤ n) (h1 : n < 256) : (letter n).toNat = n.toNat := by
  rw [letter, UInt8.toNat_ofNat']
  exact Nat.mod_eq_of_lt (by omega)
theorem letter_inj {m n : Int} (h0 : 0 ≤ m) (h1 : m < 256) (k0 : 0 ≤ n) (k1 : n < 256) : letter m = letter n ↔ m = n := by
  constructor
  · intro h
    have := congrArg UInt8.toNat h
    rw [letter_toNat h0 h1, letter_toNat k0 k1] at this
    omega
  · intro h; rw [h]
theorem letter_lt {m n : Int} (h0 : 0 ≤ m) (h1 : m < 256) (k0 : 0 ≤ n) (k1 : n < 256) : letter m < letter n ↔ m < n := by
  rw [UInt8.lt_iff_toNat_lt, letter_toNat h0 h1, letter_toNat k0 k1]
  omega
theorem letters_inj : ∀ {l m : List Int}, (∀ x ∈ l, 0 ≤ x ∧ x < 256) → (∀ x ∈ m, 0 ≤ x ∧ x < 256) → l.map letter = m.map letter → l = m
  | [], [], _, _, _ => rfl
  | [], y :: m, _, _, h => by simp at h
  | x :: l, [], _, _, h => by simp at h
  | x :: l, y :: m, hl, hm, h => by
    simp only [List.map_cons, List.cons.injEq] at h
    have e := (letter_inj (hl x (by simp)).1 (hl x (by simp)).2 (hm y (by simp)).1 (hm y (by simp)).2).1 h.1
    rw [e, letters_inj (fun z hz => hl z (by simp [hz])) (fun z hz => hm z (by simp [hz])) h.2]
theorem strOf_eq {l m : List Int} (hl : ∀ x ∈ l, 0 ≤ x ∧ x < 256) (hm : ∀ x ∈ m, 0 ≤ x ∧ x < 256) : ((strOf l).toList == (strOf m).toList) = decide (l = m) := by
  rw [strOf_data, strOf_data]
  by_cases h : l = m
  · subst h; simp
  · have : l.map letter ≠ m.map letter := fun e => h (letters_inj hl hm e)
    simp [h, this]
theorem strOf_size (ns : List Int) : (strOf ns).size = ns.length := by
  have := congrArg List.length (strOf_data ns)
  rw [ByteArray.toList_eq, List.length_map] at this
  simpa using this
theorem toList_append (a b : ByteArray) : (a ++ b).toList = a.toList ++ b.toList := by
  rw [ByteArray.toList_eq, ByteArray.toList_eq, ByteArray.toList_eq, ByteArray.data_append, Array.toList_append]
theorem i64_max : IntKind.i64.max = 9223372036854775807 := by decide
/-- the cells of a new row of numbers -/
theorem madeCells_int (k : IntKind) (n : Nat) : madeCells #[Value.int k 0] n = ((List.replicate n (0 : Int)).map (Value.int k)).toArray := by
  apply Array.ext
  · simp [madeCells]
  · intro i h1 h2
    simp [madeCells, Nat.mod_one]

/-! ### A marked row -/
theorem heap_freeze (w : World) (a : Addr) (n i : Nat) (h : i ≠ a.block) : (w.freeze a n).heap[i]? = w.heap[i]? := by
  unfold World.freeze
  split
  · rfl
  · show (w.heap.modify _ _)[i]? = _
    rw [Array.getElem?_modify, if_neg (fun e => h e.symm)]
theorem Kp.freeze (w : World) (a : Addr) (n : Nat) : Kp w (w.freeze a n) fun i => i = a.block := by
  refine ⟨?_, ?_, ?_, ?_, fun i hi h => heap_freeze w a n i h⟩ <;> unfold World.freeze <;> split <;> simp
theorem cell_freeze (w : World) (a : Addr) (n : Nat) (x : Addr) : (w.freeze a n).cell? x = w.cell? x := by
  unfold World.freeze
  split
  · rfl
  · simp only [World.cell?, Array.getElem?_modify]
    by_cases h : a.block = x.block
    · rw [if_pos h]
      cases hx : w.heap[x.block]? with
      | none => simp
      | some o =>
        cases o with
        | cells c e fr => obtain ⟨lo, hi⟩ := fr; simp
        | _ => simp
    · rw [if_neg h]
theorem markP_lit {w : World} {cs : List Value} {e : TypeId} {N : World → Prop} (K : ∀ w2, Ex w w2 → CellsO w2 (some ⟨w.heap.size, 0, none⟩) cs → N w2) : markP (w.alloc (.cells cs.toArray e)) ⟨w.heap.size, 0, none⟩ N := by
  refine ⟨cs.toArray, e, (0, 0), heap_alloc_at w _, fun w2 h => ?_⟩
  subst h
  refine K _ (Kp.trans (Ex.alloc w _) (Kp.freeze _ _ _) (fun _ _ h => h) (fun i hi h => by dsimp only at h; omega)) (fun j v hv => ?_)
  rw [cell_freeze]
  exact CellsO.alloc cs e j v hv

/-! ### Writing into an owned row -/
theorem Owns.writes {w : World} {B : Nat} {e : TypeId} {sz : Nat} {p : Option Addr} {n c : Nat} {xs : List Value} (ho : Owns w B e sz p n c xs) (o : Nat) (ys : List Value) (h : o + ys.length ≤ n * sz) (h1 : ∀ y ∈ ys, y.oneCell' = true) :
    WrO w p o ys ∧ Owns (setO w p o ys) B e sz p n c (xs.take o ++ ys ++ xs.drop (o + ys.length)) ∧ Kp w (setO w p o ys) fun i => ∃ x, p = some x ∧ x.block = i := by
  obtain ⟨hlx, hnc, hp⟩ := ho
  rcases hp with ⟨rfl, rfl⟩ | ⟨b, cur, fr, rfl, hBb, hbl, hfr, hc, hx⟩
  · have hn : n = 0 := by omega
    subst hn
    rw [Nat.zero_mul] at h hlx
    have : ys = [] := List.eq_nil_of_length_eq_zero (by omega)
    subst this
    have : xs = [] := List.eq_nil_of_length_eq_zero (by omega)
    subst this
    exact ⟨trivial, ⟨by simp, hnc, .inl ⟨rfl, rfl⟩⟩, Kp.refl _ _⟩
  · have hmul : n * sz ≤ c * sz := Nat.mul_le_mul_right _ hnc
    have hadd : (⟨b, 0, none⟩ : Addr).add o = ⟨b, o, none⟩ := by rw [Addr.add_lit]; simp
    refine ⟨?_, ?_, ?_⟩
    · show Wr w ((⟨b, 0, none⟩ : Addr).add o) ys
      rw [hadd]
      refine ⟨rfl, fun j hj => ⟨?_, ?_⟩, h1⟩ <;> dsimp only
      · rw [cell_of_block hbl, Array.getElem?_eq_getElem (by omega)]
        rfl
      · rw [frozen_of_block hbl]
        rcases hfr with h | h <;> simp <;> omega
    · have hb2 := heap_setCells_at b ys o w cur hbl
      have hw : setO w (some ⟨b, 0, none⟩) o ys = w.setCells b o ys := by simp [setO]
      rw [hw]
      refine ⟨?_, hnc, .inr ⟨b, _, fr, rfl, hBb, hb2, by rw [size_put]; exact hfr, by rw [size_put]; exact hc, ?_⟩⟩
      · simp only [List.length_append, List.length_take, List.length_drop]
        omega
      · rw [toList_put _ _ _ (by omega), ← hx]
        have hcl : cur.toList.length = cur.size := Array.length_toList
        have tl : (cur.toList.take o ++ ys).length = o + ys.length := by rw [List.length_append, List.length_take]; omega
        rw [List.take_append, List.take_of_length_le (by omega), tl, List.take_take, Nat.min_eq_left (by omega), List.drop_take]
    · have hw : setO w (some ⟨b, 0, none⟩) o ys = w.setCells b o ys := by simp [setO]
      rw [hw]
      exact Kp.setCells b ⟨_, rfl, rfl⟩ ys o w
theorem Owns.store {w : World} {B : Nat} {e : TypeId} {a : Addr} {n c : Nat} {xs : List Value} (ho : Owns w B e 1 (some a) n c xs) {j : Nat} (hj : j < n) (v : Value) (hv : v.oneCell' = true) :
    (w.cell? (a.add (j * 1))).isSome = true ∧ w.frozen? (a.add (j * 1)) = false ∧ Owns (w.setCell (a.add (j * 1)) v) B e 1 (some a) n c (xs.set j v) ∧ Kp w (w.setCell (a.add (j * 1)) v) fun i => i = a.block := by
  obtain ⟨h1, h2, h3⟩ := ho.writes j [v] (by simp; omega) (by simpa using hv)
  have hspot : (a.add j).spot = none := h1.1
  have hcell := h1.2.1 0 (by simp)
  have e1 : (⟨(a.add j).block, (a.add j).off + 0, none⟩ : Addr) = a.add j := by
    rw [Nat.add_zero, ← hspot]
  rw [e1] at hcell
  have e2 : setO w (some a) j [v] = w.setCell (a.add j) v := by
    show w.setCell ⟨a.block, a.off + j, none⟩ v = _
    congr 1
    rw [← e1, add_block, add_off, Nat.add_zero]
  rw [e2] at h2 h3
  have hlx := ho.1
  rw [Nat.mul_one] at hlx ⊢
  refine ⟨hcell.1, hcell.2, ?_, h3.mono fun i _ ⟨x, hx, hxi⟩ => by cases hx; exact hxi.symm⟩
  have e3 : xs.take j ++ [v] ++ xs.drop (j + [v].length) = xs.set j v := by
    rw [List.set_eq_take_append_cons_drop, if_pos (by omega)]
    simp
  rw [e3] at h2
  exact h2
/-- copy into an owned row that has room -/
theorem copyP_own {w : World} {B : Nat} {e : TypeId} {p s : Option Addr} {n c sn : Nat} {xs ys : List Value} {N : World → Prop} (ho : Owns w B e 1 p n c xs) (hs : CellsO w s ys) (hl : ys.length = sn) (hsn : sn ≤ n) (h1 : ∀ y ∈ ys, y.oneCell' = true)
    (K : ∀ w', Owns w' B e 1 p n c (ys ++ xs.drop sn) → Kp w w' (fun i => ∃ x, p = some x ∧ x.block = i) → N w') : copyP w p n s sn 1 N := by
  obtain ⟨k1, k2, k3⟩ := ho.writes 0 ys (by omega) h1
  refine ⟨ys, by rw [hl, Nat.mul_one]; exact (Nat.min_eq_left hsn).symm, hs, k1, fun w' hw' => ?_⟩
  subst hw'
  rw [Nat.zero_add, hl] at k2
  exact K _ (by simpa using k2) k3
end Go.Dec
