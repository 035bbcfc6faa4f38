/- A reading of loaded code by computation: operations that only read. Conditions: none; every theorem is over any program. -/
import Derived.WalkKit
import Derived.Orders
import Derived.Laws.Rows
import Derived.Deep.Draws
namespace Go.Dec

/-! ### 1. Overlays, tables, the context -/
abbrev Ov := List (Nat × Value)
def Ov.get : Ov → Nat → Option Value
  | [], _ => none
  | (j, v) :: r, d => cond (Nat.beq j d) (some v) (Ov.get r d)

structure TI where
  desc : TypeDesc
  size : Nat
  bytes : Nat
  zero : List Value

def TIok (P : Program) (t : TypeId) (i : TI) : Prop :=
  P.underlying t = some i.desc ∧ (P.info? t).map (fun x => (x.size, x.bytes)) = some (i.size, i.bytes) ∧
    ((P.info? t).bind (·.zero)).map (fun z => z.cells.toList) = some i.zero

def tget : List (Option TI) → Nat → Option TI
  | [], _ => none
  | x :: _, 0 => x
  | _ :: r, n + 1 => tget r n

def TabOk (P : Program) : Nat → List (Option TI) → Prop
  | _, [] => True
  | k, none :: r => TabOk P (k + 1) r
  | k, some i :: r => TIok P k i ∧ TabOk P (k + 1) r

theorem tabOk_get {P : Program} : ∀ {tb : List (Option TI)} {k : Nat}, TabOk P k tb → ∀ {t i}, tget tb t = some i → TIok P (k + t) i
  | [], _, _, t, i, h => by simp [tget] at h
  | none :: r, k, hk, 0, i, h => by simp [tget] at h
  | some j :: r, k, hk, 0, i, h => by
    simp only [tget, Option.some.injEq] at h
    subst h
    exact hk.1
  | none :: r, k, hk, t + 1, i, h => by
    have := tabOk_get (tb := r) (k := k + 1) hk (t := t) (i := i) (by simpa [tget] using h)
    rwa [Nat.add_right_comm, Nat.add_assoc] at this
  | some j :: r, k, hk, t + 1, i, h => by
    have := tabOk_get (tb := r) (k := k + 1) hk.2 (t := t) (i := i) (by simpa [tget] using h)
    rwa [Nat.add_right_comm, Nat.add_assoc] at this

structure Cx where
  P : Program
  tb : List (Option TI)
  fns : List Nat

structure CxOk (c : Cx) : Prop where
  tab : TabOk c.P 0 c.tb
  fn : ∀ f, f ∈ c.fns → ∃ fn, c.P.funcs[f]? = some fn ∧ (fn.name == "runtime.NumGoroutine") = false ∧ fn.body.isNone = false
  mixed : c.P.follows .mixedOrders = true

theorem CxOk.ti {c : Cx} (h : CxOk c) {t : TypeId} {i : TI} (ht : tget c.tb t = some i) : TIok c.P t i := by
  have := tabOk_get h.tab ht
  rwa [Nat.zero_add] at this

def Rel (n : Nat) (a : Act) (ov : Ov) : Prop := a.defers = [] ∧ a.tmps.size = n ∧ ∀ d v, ov.get d = some v → a.tmps[d]? = some v

/-! ### 2. Decoders: each reduces at a value in constructor form -/
def chk (b : Bool) (N : Prop) : Prop := cond b N False
def dI (k : IntKind) (v : Value) (K : Int → Prop) : Prop := match v with | .int k' n => chk (decide (k' = k)) (K n) | _ => False
def dB (v : Value) (K : Bool → Prop) : Prop := match v with | .bool b => K b | _ => False
def dS (v : Value) (K : Option Addr → Nat → Nat → Prop) : Prop := match v with | .slice a n c => K a n c | _ => False
def dP (v : Value) (K : Option Addr → Prop) : Prop := match v with | .pointer a => K a | _ => False
def dA (v : Value) (K : Array Value → Prop) : Prop := match v with | .agg cs => K cs | _ => False
def dT (v : Value) (K : Array Value → Prop) : Prop := match v with | .tuple cs => K cs | _ => False
def dStr (v : Value) (K : ByteArray → Prop) : Prop := match v with | .string s => K s | _ => False
def dF (v : Value) (K : Nat → Prop) : Prop := match v with | .float .f64 b => K b | _ => False
def dC (v : Value) (K : Nat → Nat → Prop) : Prop := match v with | .complex .f64 a b => K a b | _ => False
def dM (v : Value) (K : Option Nat → Prop) : Prop := match v with | .map r => K r | _ => False
def optP {α : Type} (x : Option α) (K : α → Prop) : Prop := match x with | some v => K v | none => False

/-- A value of a type, brought into constructor form. -/
def dTy (d : TypeDesc) (v : Value) (K : Value → Prop) : Prop :=
  match d with
  | .int k => dI k v fun n => K (.int k n)
  | .bool => dB v fun b => K (.bool b)
  | .string => dStr v fun s => K (.string s)
  | .float _ => dF v fun b => K (.float .f64 b)
  | .complex _ => dC v fun a b => K (.complex .f64 a b)
  | .slice _ => dS v fun a n c => K (.slice a n c)
  | .pointer _ => dP v fun a => K (.pointer a)
  | .map _ _ => dM v fun r => K (.map r)
  | .struct _ => dA v fun cs => K (.agg cs)
  | .array _ _ => dA v fun cs => K (.agg cs)
  | .tuple _ => dT v fun cs => K (.tuple cs)
  | _ => K v

section inv
variable {N : Prop} {v : Value}
theorem chk_inv {b : Bool} (h : chk b N) : b = true ∧ N := by cases b <;> simp_all [chk]
theorem chk_of {b : Bool} (hb : b = true) (h : N) : chk b N := by subst hb; exact h
theorem chkd_of {p : Prop} [Decidable p] (hb : p) (h : N) : chk (decide p) N := chk_of (decide_eq_true hb) h
theorem dI_inv {k : IntKind} {K : Int → Prop} (h : dI k v K) : ∃ n, v = .int k n ∧ K n := by
  unfold dI at h
  split at h
  · have e := of_decide_eq_true (chk_inv h).1
    subst e
    exact ⟨_, rfl, (chk_inv h).2⟩
  · exact h.elim
theorem dB_inv {K : Bool → Prop} (h : dB v K) : ∃ n, v = .bool n ∧ K n := by
  unfold dB at h; split at h
  · exact ⟨_, rfl, h⟩
  · exact h.elim
theorem dS_inv {K : Option Addr → Nat → Nat → Prop} (h : dS v K) : ∃ a n c, v = .slice a n c ∧ K a n c := by
  unfold dS at h; split at h
  · exact ⟨_, _, _, rfl, h⟩
  · exact h.elim
theorem dP_inv {K : Option Addr → Prop} (h : dP v K) : ∃ a, v = .pointer a ∧ K a := by
  unfold dP at h; split at h
  · exact ⟨_, rfl, h⟩
  · exact h.elim
theorem dA_inv {K : Array Value → Prop} (h : dA v K) : ∃ a, v = .agg a ∧ K a := by
  unfold dA at h; split at h
  · exact ⟨_, rfl, h⟩
  · exact h.elim
theorem dT_inv {K : Array Value → Prop} (h : dT v K) : ∃ a, v = .tuple a ∧ K a := by
  unfold dT at h; split at h
  · exact ⟨_, rfl, h⟩
  · exact h.elim
theorem dStr_inv {K : ByteArray → Prop} (h : dStr v K) : ∃ a, v = .string a ∧ K a := by
  unfold dStr at h; split at h
  · exact ⟨_, rfl, h⟩
  · exact h.elim
theorem dF_inv {K : Nat → Prop} (h : dF v K) : ∃ a, v = .float .f64 a ∧ K a := by
  unfold dF at h; split at h
  · exact ⟨_, rfl, h⟩
  · exact h.elim
theorem dC_inv {K : Nat → Nat → Prop} (h : dC v K) : ∃ a b, v = .complex .f64 a b ∧ K a b := by
  unfold dC at h; split at h
  · exact ⟨_, _, rfl, h⟩
  · exact h.elim
theorem dM_inv {K : Option Nat → Prop} (h : dM v K) : ∃ a, v = .map a ∧ K a := by
  unfold dM at h; split at h
  · exact ⟨_, rfl, h⟩
  · exact h.elim
theorem optP_inv {α : Type} {x : Option α} {K : α → Prop} (h : optP x K) : ∃ v, x = some v ∧ K v := by
  unfold optP at h; split at h
  · exact ⟨_, rfl, h⟩
  · exact h.elim
theorem optP_of {α : Type} {x : Option α} {K : α → Prop} {v : α} (e : x = some v) (h : K v) : optP x K := by
  subst e; exact h
theorem dTy_inv {d : TypeDesc} {K : Value → Prop} (h : dTy d v K) : K v := by
  unfold dTy at h
  split at h
  · obtain ⟨n, e, h⟩ := dI_inv h; rw [e]; exact h
  · obtain ⟨n, rfl, h⟩ := dB_inv h; exact h
  · obtain ⟨n, rfl, h⟩ := dStr_inv h; exact h
  · obtain ⟨n, rfl, h⟩ := dF_inv h; exact h
  · obtain ⟨n, m, rfl, h⟩ := dC_inv h; exact h
  · obtain ⟨n, m, l, rfl, h⟩ := dS_inv h; exact h
  · obtain ⟨n, rfl, h⟩ := dP_inv h; exact h
  · obtain ⟨n, rfl, h⟩ := dM_inv h; exact h
  · obtain ⟨n, rfl, h⟩ := dA_inv h; exact h
  · obtain ⟨n, rfl, h⟩ := dA_inv h; exact h
  · obtain ⟨n, rfl, h⟩ := dT_inv h; exact h
  · exact h
end inv

/-! ### 3. Operands -/
def opv (ov : Ov) (x : Operand) (K : Value → Prop) : Prop :=
  match x with
  | .tmp t => optP (ov.get t) K
  | .const v => K v
  | .global g => K (.pointer (some ⟨g, 0, none⟩))
  | .func f => K (.func (.func f) #[] #[])
theorem opv_inv {n : Nat} {a : Act} {ov : Ov} (hr : Rel n a ov) {x : Operand} {K : Value → Prop} (h : opv ov x K) : K (a.eval x) := by
  cases x with
  | tmp t =>
    obtain ⟨v, e, h⟩ := optP_inv h
    have := hr.2.2 _ _ e
    show K (a.tmps.getD t undef)
    rw [Array.getD_eq_getD_getElem?, this]
    exact h
  | const v => exact h
  | global g => exact h
  | func f => exact h
set_option linter.unusedVariables false
def opvs (ov : Ov) : List Operand → (List Value → Prop) → Prop
  | [], K => K []
  | x :: r, K => opv ov x fun v => opvs ov r fun vs => K (v :: vs)
theorem opvs_inv {n : Nat} {a : Act} {ov : Ov} (hr : Rel n a ov) : ∀ {xs : List Operand} {K : List Value → Prop}, opvs ov xs K → K (xs.map a.eval)
  | [], _, h => h
  | x :: r, K, h => opvs_inv hr (xs := r) (opv_inv hr h)
def opvo (ov : Ov) : Option Operand → (Option Value → Prop) → Prop
  | none, K => K none
  | some x, K => opv ov x fun v => K (some v)
theorem opvo_inv {n : Nat} {a : Act} {ov : Ov} (hr : Rel n a ov) : ∀ {x : Option Operand} {K : Option Value → Prop}, opvo ov x K → K (x.map a.eval)
  | none, _, h => h
  | some x, K, h => opv_inv (K := fun v => K (some v)) hr h
def opps (ov : Ov) : List (Nat × Operand) → (List (Nat × Value) → Prop) → Prop
  | [], K => K []
  | (i, x) :: r, K => opv ov x fun v => opps ov r fun vs => K ((i, v) :: vs)
theorem opps_inv {n : Nat} {a : Act} {ov : Ov} (hr : Rel n a ov) : ∀ {xs : List (Nat × Operand)} {K : List (Nat × Value) → Prop}, opps ov xs K → K (xs.map fun (i, x) => (i, a.eval x))
  | [], _, h => h
  | (i, x) :: r, K, h => opps_inv hr (xs := r) (opv_inv (K := fun v => opps ov r fun vs => K ((i, v) :: vs)) hr h)

/-! ### 4. What an operation that only reads yields -/
/-- It yields v in every world of this heap, and changes nothing. -/
def Gives {α : Type} (P : Program) (m : Sem α) (H : Array Obj) (v : α) : Prop := ∀ w : World, w.heap = H → m.run P w = .ok v w
theorem Gives.pure {α : Type} {P : Program} {H : Array Obj} (v : α) : Gives P (pure v) H v := fun _ _ => rfl
theorem Gives.bind {α β : Type} {P : Program} {H : Array Obj} {m : Sem α} {f : α → Sem β} {x : α} {y : β} (h : Gives P m H x) (g : Gives P (f x) H y) : Gives P (m >>= f) H y := fun w hw => by
  rw [Sem.run_bind, h w hw, Result.andThen_ok, g w hw]
theorem Gives.underlying {P : Program} {H : Array Obj} {t : TypeId} {d : TypeDesc} (h : P.underlying t = some d) : Gives P (underlying t) H d := fun w _ => run_underlying h w
theorem TIok.gives_u {P : Program} {H : Array Obj} {t : TypeId} {i : TI} (h : TIok P t i) : Gives P (Go.underlying t) H i.desc := Gives.underlying h.1
theorem TIok.gives_size {P : Program} {H : Array Obj} {t : TypeId} {i : TI} (h : TIok P t i) : Gives P (sizeOf t) H i.size := fun w _ => by
  obtain ⟨_, h2, _⟩ := h
  cases hq : P.info? t with
  | none => simp [hq] at h2
  | some x =>
    simp only [hq, Option.map_some, Option.some.injEq, Prod.mk.injEq] at h2
    simp [sizeOf, typeInfo, hq, h2.1]
def descAgg : TypeDesc → Bool
  | .struct _ => true
  | .array _ _ => true
  | _ => false
theorem TIok.gives_agg {P : Program} {H : Array Obj} {t : TypeId} {i : TI} (h : TIok P t i) : Gives P (isAgg t) H (descAgg i.desc) := fun w hw => by
  unfold isAgg
  rw [Sem.run_bind, h.gives_u w hw, Result.andThen_ok]
  cases i.desc <;> rfl

/-! #### operators -/
def i64eq (a b : Int) : Bool := a == b
def cAdd (x y : Nat) : Option Nat := FloatKind.f64.format.add x y
def fCmp (op : BinOp) (x y : Nat) : Bool :=
  let c := FloatKind.f64.format.order x y
  match op with
  | .eql => c == some .eq
  | .neq => c != some .eq
  | .lss => c == some .lt
  | .leq => c == some .lt || c == some .eq
  | .gtr => c == some .gt
  | .geq => c == some .gt || c == some .eq
  | _ => false
def isCmp : BinOp → Bool
  | .eql => true | .neq => true | .lss => true | .leq => true | .gtr => true | .geq => true
  | _ => false
def binI (op : BinOp) (k : IntKind) (a b : Int) (K : Value → Prop) : Prop :=
  match op with
  | .add => K (.int k (k.wrap (a + b)))
  | .sub => K (.int k (k.wrap (a - b)))
  | .mul => K (.int k (k.wrap (a * b)))
  | .quo => chk (decide (b ≠ 0)) (K (.int k (k.wrap (a.tdiv b))))
  | .rem => chk (decide (b ≠ 0)) (K (.int k (a.tmod b)))
  | .and => K (.int k (k.wrap (BitVec.ofInt k.bits a &&& BitVec.ofInt k.bits b).toNat))
  | .or => K (.int k (k.wrap (BitVec.ofInt k.bits a ||| BitVec.ofInt k.bits b).toNat))
  | .xor => K (.int k (k.wrap (BitVec.ofInt k.bits a ^^^ BitVec.ofInt k.bits b).toNat))
  | .eql => K (.bool (a == b))
  | .neq => K (.bool (a != b))
  | .lss => K (.bool (decide (a < b)))
  | .leq => K (.bool (decide (a ≤ b)))
  | .gtr => K (.bool (decide (a > b)))
  | .geq => K (.bool (decide (a ≥ b)))
  | _ => False
theorem binI_sound {P : Program} {H : Array Obj} {op : BinOp} {k : IntKind} {a b : Int} {K : Value → Prop} {t : TypeId} (h : binI op k a b K) :
    ∃ v, Gives P (binOp op t (.int k a) (.int k b)) H v ∧ K v := by
  cases op <;> simp only [binI] at h <;> first
    | exact h.elim
    | (obtain ⟨hb, h⟩ := chk_inv h
       have hb := of_decide_eq_true hb
       exact ⟨_, fun w _ => by simp [binOp, Op.intDiv, hb], h⟩)
    | exact ⟨_, fun w _ => by simp [binOp, Op.intArith, Op.intBits, Op.intCmp], h⟩
def binSh (op : BinOp) (k : IntKind) (a b : Int) (K : Value → Prop) : Prop :=
  match op with
  | .shl => chk (decide (0 ≤ b)) (K (.int k (k.wrap (a * 2 ^ (min b.toNat k.bits)))))
  | .shr => chk (decide (0 ≤ b)) (K (.int k (a.fdiv (2 ^ (min b.toNat k.bits)))))
  | _ => False
theorem binSh_sound {P : Program} {H : Array Obj} {op : BinOp} {k k' : IntKind} {a b : Int} {K : Value → Prop} {t : TypeId} (h : binSh op k a b K) :
    ∃ v, Gives P (binOp op t (.int k a) (.int k' b)) H v ∧ K v := by
  cases op <;> simp only [binSh] at h <;> first
    | exact h.elim
    | (obtain ⟨hb, h⟩ := chk_inv h
       have hb : ¬ b < 0 := by have := of_decide_eq_true hb; omega
       exact ⟨_, fun w _ => by simp [binOp, Op.shift, hb], h⟩)
def isShift : BinOp → Bool
  | .shl => true | .shr => true
  | _ => false
theorem run_equal {P : Program} {t : TypeId} {x y : Value} {w : World} {b : Bool} (h : (Op.equalIn (9999 + 1) t x y).run P w = .ok b w) : (Op.equal t x y).run P w = .ok b w := h
theorem eqs_gives {P : Program} {H : Array Obj} {t : TypeId} {op : BinOp} {x y : Value} {b : Bool} {v : Value} (hx : binOp op t x y = match op with | .eql => (do pure (.bool (← Op.equal t x y))) | _ => (do pure (.bool (!(← Op.equal t x y)))))
    (h : ∀ w : World, (Op.equalIn (9999 + 1) t x y).run P w = .ok b w) (hv : v = match op with | .eql => .bool b | _ => .bool (!b)) : Gives P (binOp op t x y) H v := fun w _ => by
  rw [hx, hv]
  cases op <;> simp [run_equal (h w)]
def bEq (op : BinOp) (r : Bool) (K : Value → Prop) : Prop :=
  match op with
  | .eql => K (.bool r)
  | .neq => K (.bool (!r))
  | _ => False
def strCmp (op : BinOp) (a b : ByteArray) (K : Value → Prop) : Prop :=
  match op with
  | .eql => K (.bool (a.toList == b.toList))
  | .neq => K (.bool (!(a.toList == b.toList)))
  | .lss => K (.bool (Op.bytesLess a.toList b.toList))
  | .add => chk (decide (((a.size + b.size : Nat) : Int) ≤ IntKind.i64.max)) (K (.string (a ++ b)))
  | _ => False
/-- x op y, of operands that only need be looked at. t's description: d. -/
def binP (d : TypeDesc) (op : BinOp) (x y : Value) (K : Value → Prop) : Prop :=
  match x, y with
  | .int k a, .int k' b => cond (isShift op) (binSh op k a b K) (chk (decide (k' = k)) (binI op k a b K))
  | .float .f64 a, .float .f64 b => chk (isCmp op) (K (.bool (fCmp op a b)))
  | .complex .f64 a b, .complex .f64 c e =>
    match op with
    | .add => optP (cAdd a c) fun r => optP (cAdd b e) fun i => K (.complex .f64 r i)
    | op => bEq op (fCmp .eql a c && fCmp .eql b e) K
  | .string a, .string b => strCmp op a b K
  | .bool a, .bool b => match d with | .bool => bEq op (a == b) K | _ => False
  | .slice a _ _, .slice none _ _ => match d with | .slice _ => bEq op a.isNone K | _ => False
  | .pointer a, .pointer none => match d with | .pointer _ => bEq op a.isNone K | _ => False
  | _, _ => False
theorem binP_sound {P : Program} {H : Array Obj} {i : TI} {t : TypeId} (hi : TIok P t i) {op : BinOp} {x y : Value} {K : Value → Prop} (h : binP i.desc op x y K) :
    ∃ v, Gives P (binOp op t x y) H v ∧ K v := by
  unfold binP at h
  split at h
  · rename_i k a k' b
    by_cases hs : isShift op = true
    · rw [hs] at h
      exact binSh_sound h
    · rw [Bool.eq_false_iff.2 hs] at h
      obtain ⟨e, h⟩ := chk_inv h
      have e := of_decide_eq_true e
      subst e
      exact binI_sound h
  · rename_i a b
    obtain ⟨e, h⟩ := chk_inv h
    refine ⟨_, fun w _ => ?_, h⟩
    cases op <;> first | (simp [isCmp] at e; done) | simp [binOp, Op.floatCmp, fCmp]
  · rename_i a b c e
    split at h
    · obtain ⟨r, hr, h⟩ := optP_inv h
      obtain ⟨s, hs, h⟩ := optP_inv h
      refine ⟨_, fun w _ => ?_, h⟩
      unfold cAdd at hr hs
      simp [binOp, Op.complexOp, Op.Complex.arith, Op.floatArith, hr, hs]
    · cases op <;> simp only [bEq] at h <;> first
        | exact h.elim
        | exact ⟨_, fun w _ => by simp [binOp, Op.complexOp, Op.Complex.cmp, Op.floatCmp, fCmp, asBool], h⟩
  · rename_i a b
    cases op <;> simp only [strCmp] at h <;> first
      | exact h.elim
      | exact ⟨_, fun w _ => by simp [binOp, Op.stringOp], h⟩
      | (obtain ⟨e, h⟩ := chk_inv h
         have e := of_decide_eq_true e
         exact ⟨_, fun w _ => by simp [binOp, Op.stringOp]; exact e, h⟩)
  · rename_i a b
    split at h
    · rename_i hd
      have hu : P.underlying t = some .bool := by rw [hi.1, hd]
      have e : ∀ w : World, (Op.equalIn (9999 + 1) t (.bool a) (.bool b)).run P w = .ok (a == b) w := fun w => by
        unfold Op.equalIn
        simp [run_underlying hu]
      cases op <;> simp only [bEq] at h <;> first
        | exact h.elim
        | exact ⟨_, eqs_gives rfl e rfl, h⟩
    · exact h.elim
  · rename_i a n c n' c'
    split at h
    · rename_i e hd
      have hu : P.underlying t = some (.slice e) := by rw [hi.1, hd]
      have e : ∀ w : World, (Op.equalIn (9999 + 1) t (.slice a n c) (.slice none n' c')).run P w = .ok a.isNone w := fun w => by
        unfold Op.equalIn
        cases a <;> simp [run_underlying hu]
      cases op <;> simp only [bEq] at h <;> first
        | exact h.elim
        | exact ⟨_, eqs_gives rfl e rfl, h⟩
    · exact h.elim
  · rename_i a
    split at h
    · rename_i e hd
      have hu : P.underlying t = some (.pointer e) := by rw [hi.1, hd]
      have e : ∀ w : World, (Op.equalIn (9999 + 1) t (.pointer a) (.pointer none)).run P w = .ok a.isNone w := fun w => by
        unfold Op.equalIn
        cases a <;> simp [run_underlying hu]
      cases op <;> simp only [bEq] at h <;> first
        | exact h.elim
        | exact ⟨_, eqs_gives (by first | rfl | (cases a <;> rfl)) e rfl, h⟩
    · exact h.elim
  · exact h.elim
end Go.Dec
