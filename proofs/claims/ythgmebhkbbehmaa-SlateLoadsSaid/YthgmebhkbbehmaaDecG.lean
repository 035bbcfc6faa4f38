/- Loaded code as one computed statement: lists of operations, branches, blocks, loops; that a call does what the statement says. Conditions: none; every theorem is over any program. -/
import Derived.Test.YthgmebhkbbehmaaDecF
import Derived.Deep.Quiet
import Derived.Scope
namespace Go.Dec
set_option linter.unusedVariables false
set_option linter.unusedSimpArgs false

/-! ### 17. Lists of operations -/
def putP (n : Nat) (d : Option Nat) (v : Value) (ov : Ov) (K : Ov → Prop) : Prop :=
  match d with
  | some d => chk (Nat.blt d n) (K ((d, v) :: ov))
  | none => K ov
theorem get_cons (j : Nat) (v : Value) (ov : Ov) (d : Nat) : Ov.get ((j, v) :: ov) d = if j = d then some v else ov.get d := by
  by_cases h : j = d
  · subst h; simp [Ov.get]
  · have : Nat.beq j d = false := by
      cases hb : Nat.beq j d with
      | false => rfl
      | true => exact (h (Nat.eq_of_beq_eq_true hb)).elim
    simp [Ov.get, this, h]
theorem putP_inv {n : Nat} {a : Act} {ov : Ov} (hr : Rel n a ov) {d : Option Nat} {v : Value} {K : Ov → Prop} (h : putP n d v ov K) : ∃ ov', Rel n (a.put d v) ov' ∧ K ov' := by
  cases d with
  | none => exact ⟨ov, hr, h⟩
  | some d =>
    obtain ⟨hd, h⟩ := chk_inv h
    have hd : d + 1 ≤ n := by simpa [Nat.blt, Nat.ble_eq] using hd
    have hd : d < n := hd
    refine ⟨_, ⟨hr.1, by simpa [Act.put] using hr.2.1, fun j u hj => ?_⟩, h⟩
    rw [get_cons] at hj
    simp only [Act.put]
    rw [Array.getElem?_setIfInBounds]
    by_cases e : d = j
    · subst e
      have : v = u := by simpa using hj
      subst this
      have : d < a.tmps.size := by rw [hr.2.1]; exact hd
      simp [this]
    · rw [if_neg e] at hj ⊢
      exact hr.2.2 j u hj
theorem Rel.set {n : Nat} {a : Act} {ov : Ov} (hr : Rel n a ov) {d : Nat} {v : Value} (hv : a.tmps[d]? = some v) : Rel n a ((d, v) :: ov) := by
  refine ⟨hr.1, hr.2.1, fun j u hj => ?_⟩
  rw [get_cons] at hj
  by_cases e : d = j
  · subst e; rw [if_pos rfl] at hj; rw [hv, hj]
  · rw [if_neg e] at hj; exact hr.2.2 j u hj
def gP (ops : List Oper) (g : Option (Nat × Bool)) (ov : Ov) (yes no : Ov → Prop) : Prop :=
  match g with
  | none => yes ov
  | some (j, want) => optP ops[j]? fun oj => optP oj.dst fun d => optP (ov.get d) fun v => match v with
    | .bool b => (match want with
      | true => cond b (yes ((d, .bool true) :: ov)) (no ((d, .bool false) :: ov))
      | false => cond b (no ((d, .bool true) :: ov)) (yes ((d, .bool false) :: ov)))
    | .tuple _ => no ov
    | _ => False
theorem gP_inv {n : Nat} {a : Act} {ov : Ov} (hr : Rel n a ov) {ops : List Oper} {o : Oper} {yes no : Ov → Prop} (h : gP ops o.guard ov yes no) :
    (Region.wanted o (yielded ops.toArray a.tmps) = true ∧ ∃ ov', Rel n a ov' ∧ yes ov') ∨ (Region.wanted o (yielded ops.toArray a.tmps) = false ∧ ∃ ov', Rel n a ov' ∧ no ov') := by
  unfold gP at h
  split at h
  · rename_i hg
    exact .inl ⟨by simp [Region.wanted, hg], ov, hr, h⟩
  · rename_i j want hg
    obtain ⟨oj, hj, h⟩ := optP_inv h
    obtain ⟨d, hd, h⟩ := optP_inv h
    obtain ⟨v, hv, h⟩ := optP_inv h
    have hv' := hr.2.2 d v hv
    have hj' : ops.toArray[j]? = some oj := by simpa using hj
    split at h
    · rename_i b
      have hy : yielded ops.toArray a.tmps j = some b := by simp [yielded, hj', hd, hv']
      cases want <;> cases b <;> first
        | exact .inl ⟨by simp [Region.wanted, hg, hy], _, hr.set hv', h⟩
        | exact .inr ⟨by simp [Region.wanted, hg, hy], _, hr.set hv', h⟩
    · rename_i cs
      have hy : yielded ops.toArray a.tmps j = none := by simp [yielded, hj', hd, hv']
      exact .inr ⟨by simp [Region.wanted, hg, hy], _, hr, h⟩
    · exact h.elim
def evOps (c : Cx) (n : Nat) (ops : List Oper) (Q : Ov → World → Prop) (X : Ov → List PanicEntry → World → Prop) : List Oper → Ov → World → Prop
  | [], ov, w => Q ov w
  | o :: r, ov, w => gP ops o.guard ov
    (fun ov => evEffM c o ov w (fun v w => putP n o.dst v ov fun ov => evOps c n ops Q X r ov w) (X ov))
    (fun ov => putP n o.dst undef ov fun ov => evOps c n ops Q X r ov w)
theorem evOps_sound {c : Cx} (hc : CxOk c) {n : Nat} {ops : List Oper} {Q : Ov → World → Prop} {X : Ov → List PanicEntry → World → Prop} {Q' : Exit → Act → World → Prop}
    (hQ : ∀ a ov w, Rel n a ov → Q ov w → Q' .normal a w) (hX : ∀ a ov ch w, Rel n a ov → X ov ch w → Q' (.panic ch) a w) :
    ∀ (l : List Oper) (a : Act) (ov : Ov) (w : World), Rel n a ov → evOps c n ops Q X l ov w → wpList c.P ops.toArray Q' l a w
  | [], a, ov, w, hr, h => hQ a ov w hr h
  | o :: r, a, ov, w, hr, h => by
    unfold wpList
    rcases gP_inv hr h with ⟨hw, ov', hr', h⟩ | ⟨hw, ov', hr', h⟩
    · rw [if_pos hw]
      refine .inl (evEffM_sound hc hr' (K := wpList c.P ops.toArray Q' r) (fun v w' hp => ?_) (fun ch w' hx => hX a ov' ch w' hr' hx) h)
      obtain ⟨ov2, hr2, h2⟩ := putP_inv hr' hp
      exact evOps_sound hc hQ hX r _ _ _ hr2 h2
    · rw [if_neg (by simp [hw])]
      obtain ⟨ov2, hr2, h2⟩ := putP_inv hr' h
      exact evOps_sound hc hQ hX r _ _ _ hr2 h2
/-- A region that draws its order and only reads. -/
def evQ (c : Cx) (n : Nat) (ops : List Oper) (Q : Ov → Prop) (w : World) : List Oper → Ov → Prop
  | [], ov => Q ov
  | o :: r, ov => gP ops o.guard ov
    (fun ov => evRead c o ov w fun v => putP n o.dst v ov fun ov => evQ c n ops Q w r ov)
    (fun ov => putP n o.dst undef ov fun ov => evQ c n ops Q w r ov)
theorem evQ_sound {c : Cx} (hc : CxOk c) {n : Nat} {ops : List Oper} {Q : Ov → Prop} {w : World} {Q' : Act → Prop}
    (hQ : ∀ a ov, Rel n a ov → Q ov → Q' a) :
    ∀ (l : List Oper) (a : Act) (ov : Ov), Rel n a ov → evQ c n ops Q w l ov → wpQuiet c.P ops.toArray (fun w' => ∃ n, w' = w.drewN n) Q' l a
  | [], a, ov, hr, h => hQ a ov hr h
  | o :: r, a, ov, hr, h => by
    unfold wpQuiet
    rcases gP_inv hr h with ⟨hw, ov', hr', h⟩ | ⟨hw, ov', hr', h⟩
    · rw [if_pos hw]
      obtain ⟨v, hv, h⟩ := evRead_sound hc hr' h
      obtain ⟨ov2, hr2, h2⟩ := putP_inv hr' h
      refine ⟨v, ?_, evQ_sound hc hQ r _ _ hr2 h2⟩
      rintro w' ⟨k, rfl⟩
      unfold Oper.quietAt
      rw [hv (w.drewN k) rfl]
      exact ⟨rfl, rfl⟩
    · rw [if_neg (by simp [hw])]
      obtain ⟨ov2, hr2, h2⟩ := putP_inv hr' h
      exact evQ_sound hc hQ r _ _ hr2 h2

/-! ### 18. Places where the code is cut: what is known of some slots -/
inductive Sl where
  | int (k : IntKind) | bool | str | slice | ptr | addr | blk | agg | val | flt | cpx | map | fn1 (g : Nat) | fn0 (g : Nat) | yld
def TF (β : Type) : List (Nat × Sl) → Type
  | [] => World → β
  | (_, .int _) :: r => Int → TF β r
  | (_, .bool) :: r => Bool → TF β r
  | (_, .str) :: r => ByteArray → TF β r
  | (_, .slice) :: r => Option Addr → Nat → Nat → TF β r
  | (_, .ptr) :: r => Option Addr → TF β r
  | (_, .addr) :: r => Addr → TF β r
  | (_, .blk) :: r => Nat → TF β r
  | (_, .agg) :: r => Array Value → TF β r
  | (_, .val) :: r => Value → TF β r
  | (_, .flt) :: r => Nat → TF β r
  | (_, .cpx) :: r => Nat → Nat → TF β r
  | (_, .map) :: r => Option Nat → TF β r
  | (_, .fn1 _) :: r => Nat → TF β r
  | (_, .fn0 _) :: r => TF β r
  | (_, .yld) :: r => Nat → TF β r
def dAddr (v : Value) (K : Addr → Prop) : Prop := match v with | .pointer (some a) => K a | _ => False
def dBlk (v : Value) (K : Nat → Prop) : Prop := match v with | .pointer (some ⟨b, 0, none⟩) => K b | _ => False
def dFn1 (g : Nat) (v : Value) (K : Nat → Prop) : Prop := match v with | .func (.func g') ⟨[]⟩ ⟨[.pointer (some ⟨b, 0, none⟩)]⟩ => chk (Nat.beq g' g) (K b) | _ => False
def dFn0 (g : Nat) (v : Value) (N : Prop) : Prop := match v with | .func (.func g') ⟨[]⟩ ⟨[]⟩ => chk (Nat.beq g' g) N | _ => False
def dYld (v : Value) (K : Nat → Prop) : Prop := match v with | .func (.yield l) ⟨[]⟩ ⟨[]⟩ => K l | _ => False
theorem dYld_inv {v : Value} {K : Nat → Prop} (h : dYld v K) : ∃ l, v = .func (.yield l) #[] #[] ∧ K l := by
  unfold dYld at h; split at h
  · exact ⟨_, rfl, h⟩
  · exact h.elim
theorem dFn0_inv {g : Nat} {v : Value} {N : Prop} (h : dFn0 g v N) : v = .func (.func g) #[] #[] ∧ N := by
  unfold dFn0 at h; split at h
  · obtain ⟨e, h2⟩ := chk_inv h
    have e := Nat.eq_of_beq_eq_true e
    exact ⟨by rw [e], h2⟩
  · exact h.elim
theorem dAddr_inv {v : Value} {K : Addr → Prop} (h : dAddr v K) : ∃ a, v = .pointer (some a) ∧ K a := by
  unfold dAddr at h; split at h
  · exact ⟨_, rfl, h⟩
  · exact h.elim
theorem dBlk_inv {v : Value} {K : Nat → Prop} (h : dBlk v K) : ∃ b, v = .pointer (some ⟨b, 0, none⟩) ∧ K b := by
  unfold dBlk at h; split at h
  · exact ⟨_, rfl, h⟩
  · exact h.elim
theorem dFn1_inv {g : Nat} {v : Value} {K : Nat → Prop} (h : dFn1 g v K) : ∃ b, v = .func (.func g) #[] #[.pointer (some ⟨b, 0, none⟩)] ∧ K b := by
  unfold dFn1 at h; split at h
  · obtain ⟨e, h2⟩ := chk_inv h
    have e := Nat.eq_of_beq_eq_true e
    exact ⟨_, by rw [e], h2⟩
  · exact h.elim
def tApp : (sl : List (Nat × Sl)) → TF Prop sl → Ov → World → Prop
  | [], K, _, w => K w
  | (d, .int k) :: r, K, ov, w => optP (ov.get d) fun v => dI k v fun x => tApp r (K x) ov w
  | (d, .bool) :: r, K, ov, w => optP (ov.get d) fun v => dB v fun x => tApp r (K x) ov w
  | (d, .str) :: r, K, ov, w => optP (ov.get d) fun v => dStr v fun x => tApp r (K x) ov w
  | (d, .slice) :: r, K, ov, w => optP (ov.get d) fun v => dS v fun x y z => tApp r (K x y z) ov w
  | (d, .ptr) :: r, K, ov, w => optP (ov.get d) fun v => dP v fun x => tApp r (K x) ov w
  | (d, .addr) :: r, K, ov, w => optP (ov.get d) fun v => dAddr v fun x => tApp r (K x) ov w
  | (d, .blk) :: r, K, ov, w => optP (ov.get d) fun v => dBlk v fun x => tApp r (K x) ov w
  | (d, .agg) :: r, K, ov, w => optP (ov.get d) fun v => dA v fun x => tApp r (K x) ov w
  | (d, .val) :: r, K, ov, w => optP (ov.get d) fun v => tApp r (K v) ov w
  | (d, .flt) :: r, K, ov, w => optP (ov.get d) fun v => dF v fun x => tApp r (K x) ov w
  | (d, .cpx) :: r, K, ov, w => optP (ov.get d) fun v => dC v fun x y => tApp r (K x y) ov w
  | (d, .map) :: r, K, ov, w => optP (ov.get d) fun v => dM v fun x => tApp r (K x) ov w
  | (d, .fn1 g) :: r, K, ov, w => optP (ov.get d) fun v => dFn1 g v fun x => tApp r (K x) ov w
  | (d, .fn0 g) :: r, K, ov, w => optP (ov.get d) fun v => dFn0 g v (tApp r K ov w)
  | (d, .yld) :: r, K, ov, w => optP (ov.get d) fun v => dYld v fun x => tApp r (K x) ov w
/-- The number that a measure gives. -/
def tNum : (sl : List (Nat × Sl)) → TF Nat sl → Ov → World → Nat
  | [], K, _, w => K w
  | (d, .int _) :: r, K, ov, w => match ov.get d with | some (.int _ x) => tNum r (K x) ov w | _ => 0
  | (d, .bool) :: r, K, ov, w => match ov.get d with | some (.bool x) => tNum r (K x) ov w | _ => 0
  | (d, .str) :: r, K, ov, w => match ov.get d with | some (.string x) => tNum r (K x) ov w | _ => 0
  | (d, .slice) :: r, K, ov, w => match ov.get d with | some (.slice x y z) => tNum r (K x y z) ov w | _ => 0
  | (d, .ptr) :: r, K, ov, w => match ov.get d with | some (.pointer x) => tNum r (K x) ov w | _ => 0
  | (d, .addr) :: r, K, ov, w => match ov.get d with | some (.pointer (some x)) => tNum r (K x) ov w | _ => 0
  | (d, .blk) :: r, K, ov, w => match ov.get d with | some (.pointer (some ⟨b, 0, none⟩)) => tNum r (K b) ov w | _ => 0
  | (d, .agg) :: r, K, ov, w => match ov.get d with | some (.agg x) => tNum r (K x) ov w | _ => 0
  | (d, .val) :: r, K, ov, w => match ov.get d with | some x => tNum r (K x) ov w | _ => 0
  | (d, .flt) :: r, K, ov, w => match ov.get d with | some (.float .f64 x) => tNum r (K x) ov w | _ => 0
  | (d, .cpx) :: r, K, ov, w => match ov.get d with | some (.complex .f64 x y) => tNum r (K x y) ov w | _ => 0
  | (d, .map) :: r, K, ov, w => match ov.get d with | some (.map x) => tNum r (K x) ov w | _ => 0
  | (d, .fn1 _) :: r, K, ov, w => match ov.get d with | some (.func _ _ ⟨[.pointer (some ⟨b, 0, none⟩)]⟩) => tNum r (K b) ov w | _ => 0
  | (_, .fn0 _) :: r, K, ov, w => tNum r K ov w
  | (d, .yld) :: r, K, ov, w => match ov.get d with | some (.func (.yield l) _ _) => tNum r (K l) ov w | _ => 0
/-- For all values of the slots of which K holds: G. -/
def tAll : (sl : List (Nat × Sl)) → TF Prop sl → (Ov → World → Prop) → Ov → Prop
  | [], K, G, ov => ∀ w, K w → G ov w
  | (d, .int k) :: r, K, G, ov => ∀ x, tAll r (K x) G ((d, .int k x) :: ov)
  | (d, .bool) :: r, K, G, ov => ∀ x, tAll r (K x) G ((d, .bool x) :: ov)
  | (d, .str) :: r, K, G, ov => ∀ x, tAll r (K x) G ((d, .string x) :: ov)
  | (d, .slice) :: r, K, G, ov => ∀ x y z, tAll r (K x y z) G ((d, .slice x y z) :: ov)
  | (d, .ptr) :: r, K, G, ov => ∀ x, tAll r (K x) G ((d, .pointer x) :: ov)
  | (d, .addr) :: r, K, G, ov => ∀ x, tAll r (K x) G ((d, .pointer (some x)) :: ov)
  | (d, .blk) :: r, K, G, ov => ∀ b, tAll r (K b) G ((d, .pointer (some ⟨b, 0, none⟩)) :: ov)
  | (d, .agg) :: r, K, G, ov => ∀ x, tAll r (K x) G ((d, .agg x) :: ov)
  | (d, .val) :: r, K, G, ov => ∀ x, tAll r (K x) G ((d, x) :: ov)
  | (d, .flt) :: r, K, G, ov => ∀ x, tAll r (K x) G ((d, .float .f64 x) :: ov)
  | (d, .cpx) :: r, K, G, ov => ∀ x y, tAll r (K x y) G ((d, .complex .f64 x y) :: ov)
  | (d, .map) :: r, K, G, ov => ∀ x, tAll r (K x) G ((d, .map x) :: ov)
  | (d, .fn1 g) :: r, K, G, ov => ∀ b, tAll r (K b) G ((d, .func (.func g) #[] #[.pointer (some ⟨b, 0, none⟩)]) :: ov)
  | (d, .fn0 g) :: r, K, G, ov => tAll r K G ((d, .func (.func g) #[] #[]) :: ov)
  | (d, .yld) :: r, K, G, ov => ∀ x, tAll r (K x) G ((d, .func (.yield x) #[] #[]) :: ov)
theorem tAll_use {n : Nat} {a : Act} {ov : Ov} (hr : Rel n a ov) {G : Ov → World → Prop} {w : World} : ∀ {sl : List (Nat × Sl)} {K : TF Prop sl} {acc : Ov}, Rel n a acc → tAll sl K G acc → tApp sl K ov w → ∃ ov', Rel n a ov' ∧ G ov' w
  | [], K, acc, hacc, hall, h => ⟨acc, hacc, hall w h⟩
  | (d, k) :: r, K, acc, hacc, hall, h => by
    cases k <;> simp only [tApp] at h <;> obtain ⟨v, hv, h⟩ := optP_inv h <;> have hs := hr.2.2 d v hv
    · obtain ⟨x, rfl, h2⟩ := dI_inv h; exact tAll_use hr (hacc.set hs) (hall x) h2
    · obtain ⟨x, rfl, h⟩ := dB_inv h; exact tAll_use hr (hacc.set hs) (hall x) h
    · obtain ⟨x, rfl, h⟩ := dStr_inv h; exact tAll_use hr (hacc.set hs) (hall x) h
    · obtain ⟨x, y, z, rfl, h⟩ := dS_inv h; exact tAll_use hr (hacc.set hs) (hall x y z) h
    · obtain ⟨x, rfl, h⟩ := dP_inv h; exact tAll_use hr (hacc.set hs) (hall x) h
    · obtain ⟨x, rfl, h⟩ := dAddr_inv h; exact tAll_use hr (hacc.set hs) (hall x) h
    · obtain ⟨x, rfl, h⟩ := dBlk_inv h; exact tAll_use hr (hacc.set hs) (hall x) h
    · obtain ⟨x, rfl, h⟩ := dA_inv h; exact tAll_use hr (hacc.set hs) (hall x) h
    · exact tAll_use hr (hacc.set hs) (hall v) h
    · obtain ⟨x, rfl, h⟩ := dF_inv h; exact tAll_use hr (hacc.set hs) (hall x) h
    · obtain ⟨x, y, rfl, h⟩ := dC_inv h; exact tAll_use hr (hacc.set hs) (hall x y) h
    · obtain ⟨x, rfl, h⟩ := dM_inv h; exact tAll_use hr (hacc.set hs) (hall x) h
    · obtain ⟨x, rfl, h2⟩ := dFn1_inv h; exact tAll_use hr (hacc.set hs) (hall x) h2
    · obtain ⟨rfl, h2⟩ := dFn0_inv h; exact tAll_use hr (hacc.set hs) hall h2
    · obtain ⟨x, rfl, h2⟩ := dYld_inv h; exact tAll_use hr (hacc.set hs) (hall x) h2
/-- For all values of the slots of which K holds: G, at the number that m gives. -/
def tAllM : (sl : List (Nat × Sl)) → TF Prop sl → TF Nat sl → (Nat → Ov → World → Prop) → Ov → Prop
  | [], K, m, G, ov => ∀ w, K w → G (m w) ov w
  | (d, .int k) :: r, K, m, G, ov => ∀ x, tAllM r (K x) (m x) G ((d, .int k x) :: ov)
  | (d, .bool) :: r, K, m, G, ov => ∀ x, tAllM r (K x) (m x) G ((d, .bool x) :: ov)
  | (d, .str) :: r, K, m, G, ov => ∀ x, tAllM r (K x) (m x) G ((d, .string x) :: ov)
  | (d, .slice) :: r, K, m, G, ov => ∀ x y z, tAllM r (K x y z) (m x y z) G ((d, .slice x y z) :: ov)
  | (d, .ptr) :: r, K, m, G, ov => ∀ x, tAllM r (K x) (m x) G ((d, .pointer x) :: ov)
  | (d, .addr) :: r, K, m, G, ov => ∀ x, tAllM r (K x) (m x) G ((d, .pointer (some x)) :: ov)
  | (d, .blk) :: r, K, m, G, ov => ∀ x, tAllM r (K x) (m x) G ((d, .pointer (some ⟨x, 0, none⟩)) :: ov)
  | (d, .agg) :: r, K, m, G, ov => ∀ x, tAllM r (K x) (m x) G ((d, .agg x) :: ov)
  | (d, .val) :: r, K, m, G, ov => ∀ x, tAllM r (K x) (m x) G ((d, x) :: ov)
  | (d, .flt) :: r, K, m, G, ov => ∀ x, tAllM r (K x) (m x) G ((d, .float .f64 x) :: ov)
  | (d, .cpx) :: r, K, m, G, ov => ∀ x y, tAllM r (K x y) (m x y) G ((d, .complex .f64 x y) :: ov)
  | (d, .map) :: r, K, m, G, ov => ∀ x, tAllM r (K x) (m x) G ((d, .map x) :: ov)
  | (d, .fn1 g) :: r, K, m, G, ov => ∀ x, tAllM r (K x) (m x) G ((d, .func (.func g) #[] #[.pointer (some ⟨x, 0, none⟩)]) :: ov)
  | (d, .fn0 g) :: r, K, m, G, ov => tAllM r K m G ((d, .func (.func g) #[] #[]) :: ov)
  | (d, .yld) :: r, K, m, G, ov => ∀ x, tAllM r (K x) (m x) G ((d, .func (.yield x) #[] #[]) :: ov)
theorem tAllM_use {n : Nat} {a : Act} {ov : Ov} (hr : Rel n a ov) {G : Nat → Ov → World → Prop} {w : World} : ∀ {sl : List (Nat × Sl)} {K : TF Prop sl} {m : TF Nat sl} {acc : Ov}, Rel n a acc → tAllM sl K m G acc → tApp sl K ov w → ∃ ov', Rel n a ov' ∧ G (tNum sl m ov w) ov' w
  | [], K, m, acc, hacc, hall, h => ⟨acc, hacc, hall w h⟩
  | (d, k) :: r, K, m, acc, hacc, hall, h => by
    cases k <;> simp only [tApp] at h <;> obtain ⟨v, hv, h⟩ := optP_inv h <;> have hs := hr.2.2 d v hv <;> simp only [tNum, hv]
    · obtain ⟨x, rfl, h2⟩ := dI_inv h; exact tAllM_use hr (hacc.set hs) (hall x) h2
    · obtain ⟨x, rfl, h2⟩ := dB_inv h; exact tAllM_use hr (hacc.set hs) (hall x) h2
    · obtain ⟨x, rfl, h2⟩ := dStr_inv h; exact tAllM_use hr (hacc.set hs) (hall x) h2
    · obtain ⟨x, y, z, rfl, h2⟩ := dS_inv h; exact tAllM_use hr (hacc.set hs) (hall x y z) h2
    · obtain ⟨x, rfl, h2⟩ := dP_inv h; exact tAllM_use hr (hacc.set hs) (hall x) h2
    · obtain ⟨x, rfl, h2⟩ := dAddr_inv h; exact tAllM_use hr (hacc.set hs) (hall x) h2
    · obtain ⟨x, rfl, h2⟩ := dBlk_inv h; exact tAllM_use hr (hacc.set hs) (hall x) h2
    · obtain ⟨x, rfl, h2⟩ := dA_inv h; exact tAllM_use hr (hacc.set hs) (hall x) h2
    · exact tAllM_use hr (hacc.set hs) (hall v) h
    · obtain ⟨x, rfl, h2⟩ := dF_inv h; exact tAllM_use hr (hacc.set hs) (hall x) h2
    · obtain ⟨x, y, rfl, h2⟩ := dC_inv h; exact tAllM_use hr (hacc.set hs) (hall x y) h2
    · obtain ⟨x, rfl, h2⟩ := dM_inv h; exact tAllM_use hr (hacc.set hs) (hall x) h2
    · obtain ⟨x, rfl, h2⟩ := dFn1_inv h; exact tAllM_use hr (hacc.set hs) (hall x) h2
    · obtain ⟨rfl, h2⟩ := dFn0_inv h; exact tAllM_use hr (hacc.set hs) hall h2
    · obtain ⟨x, rfl, h2⟩ := dYld_inv h; exact tAllM_use hr (hacc.set hs) (hall x) h2
theorem tApp_more {ov ov2 : Ov} (ho : ∀ d v, ov.get d = some v → ov2.get d = some v) {w : World} : ∀ {sl : List (Nat × Sl)} {K : TF Prop sl}, tApp sl K ov w → tApp sl K ov2 w ∧ ∀ m, tNum sl m ov w = tNum sl m ov2 w
  | [], K, h => ⟨h, fun _ => rfl⟩
  | (d, k) :: r, K, h => by
    cases k <;> simp only [tApp] at h <;> obtain ⟨v, hv, h⟩ := optP_inv h <;> have hs := ho d v hv <;> simp only [tNum, tApp, hv, hs]
    · obtain ⟨x, rfl, h2⟩ := dI_inv h; obtain ⟨h1, h3⟩ := tApp_more ho h2; exact ⟨chkd_of rfl h1, fun m => h3 (m x)⟩
    · obtain ⟨x, rfl, h2⟩ := dB_inv h; obtain ⟨h1, h3⟩ := tApp_more ho h2; exact ⟨h1, fun m => h3 (m x)⟩
    · obtain ⟨x, rfl, h2⟩ := dStr_inv h; obtain ⟨h1, h3⟩ := tApp_more ho h2; exact ⟨h1, fun m => h3 (m x)⟩
    · obtain ⟨x, y, z, rfl, h2⟩ := dS_inv h; obtain ⟨h1, h3⟩ := tApp_more ho h2; exact ⟨h1, fun m => h3 (m x y z)⟩
    · obtain ⟨x, rfl, h2⟩ := dP_inv h; obtain ⟨h1, h3⟩ := tApp_more ho h2; exact ⟨h1, fun m => h3 (m x)⟩
    · obtain ⟨x, rfl, h2⟩ := dAddr_inv h; obtain ⟨h1, h3⟩ := tApp_more ho h2; exact ⟨h1, fun m => h3 (m x)⟩
    · obtain ⟨x, rfl, h2⟩ := dBlk_inv h; obtain ⟨h1, h3⟩ := tApp_more ho h2; exact ⟨h1, fun m => h3 (m x)⟩
    · obtain ⟨x, rfl, h2⟩ := dA_inv h; obtain ⟨h1, h3⟩ := tApp_more ho h2; exact ⟨h1, fun m => h3 (m x)⟩
    · obtain ⟨h1, h2⟩ := tApp_more ho h; exact ⟨h1, fun m => h2 (m v)⟩
    · obtain ⟨x, rfl, h2⟩ := dF_inv h; obtain ⟨h1, h3⟩ := tApp_more ho h2; exact ⟨h1, fun m => h3 (m x)⟩
    · obtain ⟨x, y, rfl, h2⟩ := dC_inv h; obtain ⟨h1, h3⟩ := tApp_more ho h2; exact ⟨h1, fun m => h3 (m x y)⟩
    · obtain ⟨x, rfl, h2⟩ := dM_inv h; obtain ⟨h1, h3⟩ := tApp_more ho h2; exact ⟨h1, fun m => h3 (m x)⟩
    · obtain ⟨x, rfl, h2⟩ := dFn1_inv h; obtain ⟨h1, h3⟩ := tApp_more ho h2; exact ⟨chk_of (by simp [Nat.beq_refl]) h1, fun m => h3 (m x)⟩
    · obtain ⟨rfl, h2⟩ := dFn0_inv h; obtain ⟨h1, h3⟩ := tApp_more ho h2; exact ⟨chk_of (by simp [Nat.beq_refl]) h1, fun m => h3 m⟩
    · obtain ⟨x, rfl, h2⟩ := dYld_inv h; obtain ⟨h1, h3⟩ := tApp_more ho h2; exact ⟨h1, fun m => h3 (m x)⟩
/-- 'I holds, and the measure m is less than k'. -/
def tLt : (sl : List (Nat × Sl)) → TF Prop sl → TF Nat sl → Nat → TF Prop sl
  | [], I, m, k => fun w => I w ∧ m w < k
  | (_, .int _) :: r, I, m, k => fun x => tLt r (I x) (m x) k
  | (_, .bool) :: r, I, m, k => fun x => tLt r (I x) (m x) k
  | (_, .str) :: r, I, m, k => fun x => tLt r (I x) (m x) k
  | (_, .slice) :: r, I, m, k => fun x y z => tLt r (I x y z) (m x y z) k
  | (_, .ptr) :: r, I, m, k => fun x => tLt r (I x) (m x) k
  | (_, .addr) :: r, I, m, k => fun x => tLt r (I x) (m x) k
  | (_, .blk) :: r, I, m, k => fun x => tLt r (I x) (m x) k
  | (_, .agg) :: r, I, m, k => fun x => tLt r (I x) (m x) k
  | (_, .val) :: r, I, m, k => fun x => tLt r (I x) (m x) k
  | (_, .flt) :: r, I, m, k => fun x => tLt r (I x) (m x) k
  | (_, .cpx) :: r, I, m, k => fun x y => tLt r (I x y) (m x y) k
  | (_, .map) :: r, I, m, k => fun x => tLt r (I x) (m x) k
  | (_, .fn1 _) :: r, I, m, k => fun x => tLt r (I x) (m x) k
  | (_, .fn0 _) :: r, I, m, k => tLt r I m k
  | (_, .yld) :: r, I, m, k => fun x => tLt r (I x) (m x) k
theorem tApp_tLt {k : Nat} {ov : Ov} {w : World} : ∀ {sl : List (Nat × Sl)} {I : TF Prop sl} {m : TF Nat sl}, tApp sl (tLt sl I m k) ov w → tApp sl I ov w ∧ tNum sl m ov w < k
  | [], I, m, h => h
  | (d, kd) :: r, I, m, h => by
    cases kd <;> simp only [tApp] at h <;> obtain ⟨v, hv, h⟩ := optP_inv h <;> simp only [tNum, tApp, hv]
    · obtain ⟨x, rfl, h2⟩ := dI_inv h; obtain ⟨h1, h3⟩ := tApp_tLt h2; exact ⟨chkd_of rfl h1, h3⟩
    · obtain ⟨x, rfl, h2⟩ := dB_inv h; obtain ⟨h1, h3⟩ := tApp_tLt h2; exact ⟨h1, h3⟩
    · obtain ⟨x, rfl, h2⟩ := dStr_inv h; obtain ⟨h1, h3⟩ := tApp_tLt h2; exact ⟨h1, h3⟩
    · obtain ⟨x, y, z, rfl, h2⟩ := dS_inv h; obtain ⟨h1, h3⟩ := tApp_tLt h2; exact ⟨h1, h3⟩
    · obtain ⟨x, rfl, h2⟩ := dP_inv h; obtain ⟨h1, h3⟩ := tApp_tLt h2; exact ⟨h1, h3⟩
    · obtain ⟨x, rfl, h2⟩ := dAddr_inv h; obtain ⟨h1, h3⟩ := tApp_tLt h2; exact ⟨h1, h3⟩
    · obtain ⟨x, rfl, h2⟩ := dBlk_inv h; obtain ⟨h1, h3⟩ := tApp_tLt h2; exact ⟨h1, h3⟩
    · obtain ⟨x, rfl, h2⟩ := dA_inv h; obtain ⟨h1, h3⟩ := tApp_tLt h2; exact ⟨h1, h3⟩
    · exact tApp_tLt h
    · obtain ⟨x, rfl, h2⟩ := dF_inv h; obtain ⟨h1, h3⟩ := tApp_tLt h2; exact ⟨h1, h3⟩
    · obtain ⟨x, y, rfl, h2⟩ := dC_inv h; obtain ⟨h1, h3⟩ := tApp_tLt h2; exact ⟨h1, h3⟩
    · obtain ⟨x, rfl, h2⟩ := dM_inv h; obtain ⟨h1, h3⟩ := tApp_tLt h2; exact ⟨h1, h3⟩
    · obtain ⟨x, rfl, h2⟩ := dFn1_inv h; obtain ⟨h1, h3⟩ := tApp_tLt h2; exact ⟨chk_of (by simp [Nat.beq_refl]) h1, h3⟩
    · obtain ⟨rfl, h2⟩ := dFn0_inv h; obtain ⟨h1, h3⟩ := tApp_tLt h2; exact ⟨chk_of (by simp [Nat.beq_refl]) h1, h3⟩
    · obtain ⟨x, rfl, h2⟩ := dYld_inv h; obtain ⟨h1, h3⟩ := tApp_tLt h2; exact ⟨h1, h3⟩
end Go.Dec
