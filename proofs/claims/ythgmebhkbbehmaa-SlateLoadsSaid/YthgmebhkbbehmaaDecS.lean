/- What came in, read to its cells: numbers, truth values, structs of them, slices of all these, to any depth. Conditions: none; every theorem is over any program. -/
import Derived.Test.YthgmebhkbbehmaaDecR
import Derived.Deep.Fields
import Derived.Deep.Slices
import Derived.WideShapes
namespace Go.Dec
open Go.RowKit Go.ChangeShapes Go.WideShapes
set_option linter.unusedVariables false
set_option linter.unusedSimpArgs false

/-- a row of cells: numbers, truth values, slices of rows -/
inductive Line where
  | done
  | int (k : IntKind) (r : Line)
  | bool (r : Line)
  | sl (b : Nat) (e r : Line)

def Line.len : Line → Nat
  | .done => 0
  | .int _ r => r.len + 1
  | .bool r => r.len + 1
  | .sl _ _ r => r.len + 1

/-- a slice whose rows are such -/
structure SlIs (w : World) (m : Nat → Nat → Prop) (b : Nat) (R : List Value → Prop) (a : Option Addr) (len cap : Nat) (rows : List (List Value)) : Prop where
  size : rows.length = len
  room : len ≤ cap
  most : m b cap
  fits : cap ≤ maxLen
  cells : CellsO w a rows.flatten
  each : ∀ r ∈ rows, R r
  nil : a = none → cap = 0
  lt : ∀ x, a = some x → 0 < cap → x.block < w.heap.size

def LineIs (w : World) (m : Nat → Nat → Prop) : Line → List Value → Prop
  | .done, vs => vs = []
  | .int k r, vs => ∃ n t, vs = .int k n :: t ∧ (Lit.int k n).wf = true ∧ LineIs w m r t
  | .bool r, vs => ∃ b t, vs = .bool b :: t ∧ LineIs w m r t
  | .sl b e r, vs => ∃ a len cap rows t, vs = .slice a len cap :: t ∧ SlIs w m b (LineIs w m e) a len cap rows ∧ LineIs w m r t

theorem LineIs.len {w : World} {m : Nat → Nat → Prop} : ∀ {r : Line} {vs : List Value}, LineIs w m r vs → vs.length = r.len
  | .done, vs, h => by have : vs = [] := h; subst this; rfl
  | .int k r, vs, h => by obtain ⟨n, t, rfl, _, h⟩ := h; simp [Line.len, LineIs.len h]
  | .bool r, vs, h => by obtain ⟨n, t, rfl, h⟩ := h; simp [Line.len, LineIs.len h]
  | .sl b e r, vs, h => by obtain ⟨a, l, c, rows, t, rfl, _, h⟩ := h; simp [Line.len, LineIs.len h]

theorem SlIs.ex {w w' : World} {m : Nat → Nat → Prop} {b : Nat} {R : List Value → Prop} {a : Option Addr} {len cap : Nat} {rows : List (List Value)} (h : SlIs w m b R a len cap rows) (hx : Ex w w') {R' : List Value → Prop} (hR : ∀ r, R r → R' r) : SlIs w' m b R' a len cap rows :=
  ⟨h.size, h.room, h.most, h.fits, h.cells.ex hx, fun r hr => hR r (h.each r hr), h.nil, fun x e h0 => Nat.lt_of_lt_of_le (h.lt x e h0) hx.size⟩
theorem LineIs.ex {w w' : World} {m : Nat → Nat → Prop} (hx : Ex w w') : ∀ {r : Line} {vs : List Value}, LineIs w m r vs → LineIs w' m r vs
  | .done, vs, h => h
  | .int k r, vs, h => by obtain ⟨n, t, rfl, hw, h⟩ := h; exact ⟨n, t, rfl, hw, LineIs.ex hx h⟩
  | .bool r, vs, h => by obtain ⟨n, t, rfl, h⟩ := h; exact ⟨n, t, rfl, LineIs.ex hx h⟩
  | .sl b e r, vs, h => by
    obtain ⟨a, l, c, rows, t, rfl, hs, h⟩ := h
    exact ⟨a, l, c, rows, t, rfl, hs.ex hx (fun r hr => LineIs.ex hx hr), LineIs.ex hx h⟩

/-- a slice of numbers -/
theorem SlIs.ints {w : World} {m : Nat → Nat → Prop} {b : Nat} {k : IntKind} {a : Option Addr} {len cap : Nat} {rows : List (List Value)} (h : SlIs w m b (LineIs w m (.int k .done)) a len cap rows) : ∃ xs, Ints k w a len cap xs ∧ m b cap ∧ rows = xs.map fun x => [Value.int k x] := by
  have key : ∀ rows : List (List Value), (∀ r ∈ rows, LineIs w m (.int k .done) r) → ∃ xs : List Int, rows = xs.map (fun x => [Value.int k x]) ∧ ∀ x ∈ xs, (Lit.int k x).wf = true := by
    intro rows
    induction rows with
    | nil => intro _; exact ⟨[], rfl, by simp⟩
    | cons r rs ih =>
      intro hr
      obtain ⟨xs, rfl, hx⟩ := ih fun r h => hr r (List.mem_cons_of_mem _ h)
      obtain ⟨n, t, rfl, hn, ht⟩ := hr r (List.mem_cons_self ..)
      have : t = [] := ht
      subst this
      exact ⟨n :: xs, rfl, fun x h => by rcases List.mem_cons.1 h with rfl | h; exact hn; exact hx x h⟩
  obtain ⟨xs, rfl, hx⟩ := key rows h.each
  have hfl : (xs.map fun x => [Value.int k x]).flatten = xs.map (Value.int k) := by
    clear h hx
    induction xs with
    | nil => rfl
    | cons x r ih => simp [ih]
  have hc := h.cells
  rw [hfl] at hc
  exact ⟨xs, ⟨hc, by simpa using h.size, h.room, h.fits, hx, h.lt, h.nil⟩, h.most, rfl⟩

/-! ### Which line a type has -/
def fieldsOf (P : Program) (rec : TypeId → Line → Option Line) : List Field → Nat → Nat → Line → Option Line
  | [], off, tot, k => if off = tot then some k else none
  | f :: fs, off, tot, k => if f.offset = off then (fieldsOf P rec fs (off + P.cellsOf f.type) tot k).bind (rec f.type) else none
def lineOf (P : Program) : Nat → TypeId → Line → Option Line
  | 0, _, _ => none
  | n + 1, t, k => match P.underlying t with
    | some (.int j) => some (.int j k)
    | some .bool => some (.bool k)
    | some (.slice e) => (lineOf P n e .done).bind fun l => if l.len = P.cellsOf e ∧ l.len ≠ 0 then some (.sl (P.bytesOf e) l k) else none
    | some (.struct fs) => fieldsOf P (lineOf P n) fs.toList 0 (P.cellsOf t) k
    | _ => none

section
variable {H : Type} {enc : TypeId × Value → H} {P : Program}
/-- what is asked of a reading's sizes, and goes down to its parts -/
structure Sizes (P : Program) (m : Nat → Nat → Prop) (G : TypeId → DataW H → Prop) : Prop where
  sl : ∀ t e el sp, P.underlying t = some (.slice e) → G t (.slice el sp) → m (P.bytesOf e) (el.length + sp.length) ∧ ∀ d ∈ el, G e d
  zero : ∀ b, m b 0
  st : ∀ t fs ds, P.underlying t = some (.struct fs) → G t (.agg ds) → ∀ (i : Nat) (f : Field) (d : DataW H), fs[i]? = some f → ds[i]? = some d → G f.type d

theorem flatten_at {α : Type} : ∀ (rows : List (List α)) (k : Nat), (∀ r ∈ rows, r.length = k) → ∀ (i : Nat) (r : List α), rows[i]? = some r → ∀ j, j < k → rows.flatten[i * k + j]? = r[j]?
  | [], _, _, i, r, h, _, _ => by simp at h
  | x :: rs, k, hk, 0, r, h, j, hj => by
    simp only [List.getElem?_cons_zero, Option.some.injEq] at h
    subst h
    have := hk x (by simp)
    rw [List.flatten_cons, List.getElem?_append_left (by omega)]
    simp
  | x :: rs, k, hk, i + 1, r, h, j, hj => by
    have hx := hk x (by simp)
    rw [List.flatten_cons, List.getElem?_append_right (by rw [hx, Nat.add_mul]; omega), hx, Nat.add_mul, Nat.one_mul, show i * k + k + j - k = i * k + j by omega]
    exact flatten_at rs k (fun r hr => hk r (List.mem_cons_of_mem _ hr)) i r (by simpa using h) j hj
theorem flatten_len {α : Type} : ∀ (rows : List (List α)) (k : Nat), (∀ r ∈ rows, r.length = k) → rows.flatten.length = rows.length * k
  | [], k, _ => by simp
  | x :: rs, k, hk => by
    rw [List.flatten_cons, List.length_append, hk x (by simp), flatten_len rs k fun r hr => hk r (List.mem_cons_of_mem _ hr), List.length_cons, Nat.add_mul]
    omega

theorem fields_read {m : Nat → Nat → Prop} {W : World} {cs : List Value} {rec : TypeId → Line → Option Line}
    (tot : Nat) (hl : cs.length = tot) : ∀ (fs : List Field) (off : Nat) (k r : Line), fieldsOf P rec fs off tot k = some r →
    (∀ (i : Nat) (f : Field), fs[i]? = some f → ∀ k r, rec f.type k = some r → ∀ tail, LineIs W m k tail → LineIs W m r ((cs.drop f.offset).take (P.cellsOf f.type) ++ tail)) → ∀ tail, LineIs W m k tail → LineIs W m r (cs.drop off ++ tail)
  | [], off, k, r, h, _, tail, ht => by
    unfold fieldsOf at h
    split at h
    · rename_i e
      simp only [Option.some.injEq] at h
      subst h
      rw [List.drop_eq_nil_of_le (by omega)]
      exact ht
    · cases h
  | f :: fs, off, k, r, h, hrec, tail, ht => by
    unfold fieldsOf at h
    split at h
    · rename_i e
      obtain ⟨k2, h2, h3⟩ := Option.bind_eq_some_iff.1 h
      have ih := fields_read tot hl fs _ k k2 h2 (fun i f hf => hrec (i + 1) f (by simpa using hf)) tail ht
      have := hrec 0 f rfl k2 r h3 _ ih
      rw [e, ← List.append_assoc] at this
      rw [← List.drop_drop, List.take_append_drop] at this
      exact this
    · cases h

theorem line_read {m : Nat → Nat → Prop} {G : TypeId → DataW H → Prop} (hG : Sizes P m G) {W : World} : ∀ (n : Nat) (t : TypeId) (k r : Line), lineOf P n t k = some r →
    ∀ (fuel : Nat) (cs : List Value) (x : DataW H × List MemPlace), DataW.trod enc P W 0 (fun _ => true) true fuel t cs = some x → G t x.1 → ∀ tail, LineIs W m k tail → LineIs W m r (cs ++ tail)
  | 0, t, k, r, h, _, _, _, _, _, _, _ => by cases h
  | n + 1, t, k, r, h, fuel, cs, x, hx, hg, tail, ht => by
    unfold lineOf at h
    split at h
    · rename_i j hu
      simp only [Option.some.injEq] at h
      subst h
      obtain ⟨z, rfl, _, hw⟩ := DataW.trod_int hu hx
      exact ⟨z, tail, rfl, hw, ht⟩
    · rename_i hu
      simp only [Option.some.injEq] at h
      subst h
      obtain ⟨z, rfl, _⟩ := DataW.trod_bool hu hx
      exact ⟨z, tail, rfl, ht⟩
    · rename_i e hu
      obtain ⟨l, h2, h3⟩ := Option.bind_eq_some_iff.1 h
      split at h3
      · rename_i hlen
        obtain ⟨hlen, hne⟩ := hlen
        simp only [Option.some.injEq] at h3
        subst h3
        have hlt := DataW.trod_lt fuel t cs x hx
        rcases Go.Deep.open_slice hu hx with ⟨rfl, hx2⟩ | ⟨a, len, cap, m', n', D, Pl, rfl, hb, hl, hm, hmm, hx2, hel⟩
        · exact ⟨none, 0, 0, [], tail, rfl, ⟨rfl, Nat.le_refl _, hG.zero _, Nat.zero_le _, rfl, (by simp), fun _ => rfl, (fun x h _ => by cases h)⟩, ht⟩
        · simp only [if_true] at hmm
          subst hmm
          rw [hx2] at hg hlt
          obtain ⟨g1, g2⟩ := hG.sl t e _ _ hu hg
          have hcap : len + (m' - len) = m' := by omega
          simp only [List.length_map, List.length_range, hcap] at g1
          have hrows : ∀ i, i < len → ∃ cs', cs'.length = P.cellsOf e ∧ (∀ j, j < P.cellsOf e → W.cell? ((a.add (i * P.cellsOf e)).add j) = cs'[j]?) ∧ LineIs W m l cs' := by
            intro i hi
            obtain ⟨cs', hc, htr⟩ := hel i (by omega)
            obtain ⟨_, hcl, hcc⟩ := World.cells?_some hc
            refine ⟨cs', hcl, hcc, ?_⟩
            have := line_read hG n e .done l h2 _ _ _ htr (g2 _ (List.mem_map.2 ⟨i, List.mem_range.2 hi, rfl⟩)) [] rfl
            simpa using this
          have hpick : ∃ rows : List (List Value), rows.length = len ∧ ∀ i r, rows[i]? = some r → r.length = P.cellsOf e ∧ (∀ j, j < P.cellsOf e → W.cell? ((a.add (i * P.cellsOf e)).add j) = r[j]?) ∧ LineIs W m l r := by
            clear hlt g1 g2 hel hg hx hx2 hl hcap
            induction len with
            | zero => exact ⟨[], rfl, fun i r h => by simp at h⟩
            | succ q ih =>
              obtain ⟨rows, h1, h2⟩ := ih fun i hi => hrows i (by omega)
              obtain ⟨cs', hq⟩ := hrows q (by omega)
              refine ⟨rows ++ [cs'], by simp [h1], fun i r hi => ?_⟩
              by_cases hi2 : i < rows.length
              · rw [List.getElem?_append_left hi2] at hi
                exact h2 i r hi
              · have : i = q := by
                  have := (List.getElem?_eq_some_iff.1 hi).1
                  simp only [List.length_append, List.length_cons, List.length_nil] at this
                  omega
                subst this
                rw [List.getElem?_append_right (by omega), h1, Nat.sub_self] at hi
                simp only [List.getElem?_cons_zero, Option.some.injEq] at hi
                subst hi
                exact hq
          obtain ⟨rows, hr1, hr2⟩ := hpick
          have hk : ∀ r ∈ rows, r.length = P.cellsOf e := fun r hr => by
            obtain ⟨i, hi⟩ := List.getElem?_of_mem hr
            exact (hr2 i r hi).1
          refine ⟨some a, len, m', rows, tail, rfl, ⟨hr1, hl, g1, hm, ?_, fun r hr => by
            obtain ⟨i, hi⟩ := List.getElem?_of_mem hr
            exact (hr2 i r hi).2.2, (fun h => by cases h), fun x hx3 h0 => ?_⟩, ht⟩
          · intro j v hj
            have hpos : 0 < P.cellsOf e := by omega
            have hjl := (List.getElem?_eq_some_iff.1 hj).1
            rw [flatten_len rows _ hk, hr1] at hjl
            have hq : j / P.cellsOf e < rows.length := by rw [hr1]; exact (Nat.div_lt_iff_lt_mul hpos).2 hjl
            have hrow := List.getElem?_eq_getElem hq
            have hmod := Nat.mod_lt j hpos
            have hdm : j / P.cellsOf e * P.cellsOf e + j % P.cellsOf e = j := by rw [Nat.mul_comm]; exact Nat.div_add_mod j _
            have h1 := flatten_at rows _ hk _ _ hrow _ hmod
            rw [hdm, hj] at h1
            rw [← hdm, ← add_add, (hr2 _ _ hrow).2.1 _ hmod, ← h1]
          · injection hx3 with hx3
            subst hx3
            have : (MemPlace.cell a.block a.off) ∈ MemPlace.row a (m' * P.cellsOf e) := by
              have hpos : 0 < m' * P.cellsOf e := Nat.mul_pos h0 (by omega)
              exact List.mem_map.2 ⟨0, List.mem_range.2 hpos, by simp⟩
            exact hlt _ (List.mem_append_left _ this)
      · cases h3
    · rename_i fs hu
      obtain ⟨xs, n', _, hx2, hl, hxl, hf⟩ := DataW.trod_struct hu hx
      rw [hx2] at hg
      have := fields_read (P := P) (m := m) (W := W) (cs := cs) (rec := lineOf P n) _ hl fs.toList 0 k r h (fun i f hi k r hk tail ht => by
        have hi' : fs[i]? = some f := by rw [← Array.getElem?_toList]; exact hi
        have h1 := hf i f hi'
        have hlt : i < xs.length := by rw [hxl]; exact (Array.getElem?_eq_some_iff.1 hi').1
        rw [List.getElem?_eq_getElem hlt] at h1
        exact line_read hG n f.type k r hk _ _ _ h1 (hG.st t fs _ hu hg i f _ hi' (by rw [List.getElem?_map, List.getElem?_eq_getElem hlt]; rfl)) tail ht) tail ht
      simpa using this
    · cases h

/-- the bounds of the first form -/
theorem sizes_said : Sizes P (fun b c => c * b ≤ 140737488351232) (fun t d => (DataW.weights (H := H) P t d).all (· ≤ reachBytes) = true) where
  sl := fun t e el sp hu h => by
    simp only [DataW.weights, hu, List.all_cons, Bool.and_eq_true, decide_eq_true_eq, List.all_append] at h
    refine ⟨h.1, fun d hd => ?_⟩
    have := h.2.1
    clear h
    induction el with
    | nil => cases hd
    | cons y r ih =>
      simp only [DataW.weightsAll, List.all_append, Bool.and_eq_true] at this
      rcases List.mem_cons.1 hd with rfl | hd
      · exact this.1
      · exact ih hd this.2
  zero := fun b => by simp
  st := fun t fs ds hu h i f d hf hd => by
    simp only [DataW.weights, hu] at h
    have key : ∀ (fl : List Field) (ds : List (DataW H)), (DataW.weightsEach P (fl.map (·.type)) ds).all (· ≤ reachBytes) = true → ∀ (i : Nat) (f : Field) (d : DataW H), fl[i]? = some f → ds[i]? = some d → (DataW.weights P f.type d).all (· ≤ reachBytes) = true := by
      intro fl
      induction fl with
      | nil => intro ds _ i f d hf _; simp at hf
      | cons g fl ih =>
        intro ds h i f d hf hd
        cases ds with
        | nil => simp at hd
        | cons y r =>
          simp only [List.map_cons, DataW.weightsEach, List.all_append, Bool.and_eq_true] at h
          cases i with
          | zero =>
            simp only [List.getElem?_cons_zero, Option.some.injEq] at hf hd
            subst hf; subst hd
            exact h.1
          | succ i => exact ih r h.2 i f d (by simpa using hf) (by simpa using hd)
    exact key fs.toList ds h i f d (by rw [Array.getElem?_toList]; exact hf) hd

theorem weights_at {ts : List TypeId} {ds : List (DataW H)} (h : (DataW.weightsEach P ts ds).all (· ≤ reachBytes) = true) : ∀ {j : Nat} {t : TypeId} {d : DataW H}, ts[j]? = some t → ds[j]? = some d → (DataW.weights P t d).all (· ≤ reachBytes) = true := by
  induction ts generalizing ds with
  | nil => intro j t d ht _; simp at ht
  | cons u r ih =>
    intro j t d ht hd
    cases ds with
    | nil => simp at hd
    | cons y s =>
      simp only [DataW.weightsEach, List.all_append, Bool.and_eq_true] at h
      cases j with
      | zero =>
        simp only [List.getElem?_cons_zero, Option.some.injEq] at ht hd
        subst ht; subst hd
        exact h.1
      | succ j => exact ih h.2 (by simpa using ht) (by simpa using hd)

/-- a struct that came in -/
theorem arg_struct {m : Nat → Nat → Prop} {G : TypeId → DataW H → Prop} (hG : Sizes P m G) {t : TypeId} {fs : Array Field} {r : Line} (ht : P.underlying t = some (.struct fs)) (hr : lineOf P 9 t .done = some r) {W : World} {b0 : Nat} {v : Value} {d : DataW H} {ps : List MemPlace} (hval : Value.okWide P W .any b0 t v)
    (hd : DataW.Trod enc P W 0 (fun _ => true) true t v d ps) (hg : G t d) : ∃ vs : List Value, v = .agg vs.toArray ∧ LineIs W m r vs := by
  obtain ⟨cs, rfl, _⟩ := okWide_struct ht hval
  obtain ⟨fuel, hf⟩ := hd
  have := line_read hG 9 t .done r hr fuel _ _ hf hg [] rfl
  exact ⟨cs.toList, by simp, by simpa [Value.cells] using this⟩
/-- a slice that came in -/
theorem arg_slice {m : Nat → Nat → Prop} {G : TypeId → DataW H → Prop} (hG : Sizes P m G) {t e : TypeId} {r : Line} {b : Nat} (ht : P.underlying t = some (.slice e)) (hr : lineOf P 9 t .done = some (.sl b r .done)) {W : World} {b0 : Nat} {v : Value} {d : DataW H} {ps : List MemPlace} (hval : Value.okWide P W .any b0 t v)
    (hd : DataW.Trod enc P W 0 (fun _ => true) true t v d ps) (hg : G t d) : ∃ a len cap rows, v = .slice a len cap ∧ SlIs W m b (LineIs W m r) a len cap rows := by
  obtain ⟨a, len, cap, rfl⟩ := okWide_slice ht hval
  obtain ⟨fuel, hf⟩ := hd
  have := line_read hG 9 t .done _ hr fuel _ _ hf hg [] rfl
  obtain ⟨a', len', cap', rows, tl, h1, h2, _⟩ := this
  simp only [Value.cells, List.append_nil, List.cons.injEq, Value.slice.injEq] at h1
  obtain ⟨⟨rfl, rfl, rfl⟩, _⟩ := h1
  exact ⟨_, _, _, rows, rfl, h2⟩
end
end Go.Dec
