/- Operations of loaded code: those that only read, as one; those that write, make memory or call. Conditions: none; every theorem is over any program. -/
import Derived.Test.YthgmebhkbbehmaaDecB
namespace Go.Dec
set_option linter.unusedVariables false

/-! ### 11. An operation that only reads -/
def lenP (c : Cx) (t : TypeId) (x : Value) (K : Value → Prop) : Prop :=
  optP (tget c.tb t) fun i => match i.desc with
    | .string => dStr x fun s => K (.int .i64 (s.size : Int))
    | .array n _ => K (.int .i64 (n : Int))
    | .slice _ => dS x fun _ n _ => K (.int .i64 (n : Int))
    | _ => False
def max2 (a b : Int) : Int := if b > a then b else a
def min2 (a b : Int) : Int := if b < a then b else a
def bltP (c : Cx) (b : Builtin) (ts : Array TypeId) (xs : List Value) (K : Value → Prop) : Prop :=
  match b with
  | .len => (match xs with | [x] => optP ts[0]? fun t => lenP c t x K | _ => False)
  | .real => (match xs with | [x] => dC x fun a _ => K (.float .f64 a) | _ => False)
  | .imag => (match xs with | [x] => dC x fun _ a => K (.float .f64 a) | _ => False)
  | .complex => (match xs with | [x, y] => dF x fun a => dF y fun b => K (.complex .f64 a b) | _ => False)
  | .max => (match xs with | [.int k a, .int _ b] => K (.int k (max2 a b)) | _ => False)
  | .min => (match xs with | [.int k a, .int _ b] => K (.int k (min2 a b)) | _ => False)
  | .cap => (match xs with | [x] => optP ts[0]? fun t => optP (tget c.tb t) fun i => (match i.desc with | .slice _ => dS x fun _ _ n => K (.int .i64 (n : Int)) | _ => False) | _ => False)
  | _ => False
theorem lenP_sound {c : Cx} (hc : CxOk c) {H : Array Obj} {ts : Array TypeId} {t : TypeId} (ht : ts[0]? = some t) {ty : TypeId} {x : Value} {K : Value → Prop} (h : lenP c t x K) :
    ∃ v, Gives c.P (Builtin.len_ ts ty #[x]) H v ∧ K v := by
  obtain ⟨i, hi, h⟩ := optP_inv h
  have hi := hc.ti hi
  split at h
  · rename_i hd
    obtain ⟨s, rfl, h2⟩ := dStr_inv h
    refine ⟨_, fun w hw => ?_, h2⟩
    have h1 := hi.gives_u w hw
    rw [hd] at h1
    simp [Builtin.len_, ht, h1, goInt]
  · rename_i n e hd
    refine ⟨_, fun w hw => ?_, h⟩
    have h1 := hi.gives_u w hw
    rw [hd] at h1
    simp [Builtin.len_, ht, h1, goInt]
  · rename_i e hd
    obtain ⟨a, n, cp, rfl, h2⟩ := dS_inv h
    refine ⟨_, fun w hw => ?_, h2⟩
    have h1 := hi.gives_u w hw
    rw [hd] at h1
    simp [Builtin.len_, ht, h1, goInt]
  · exact h.elim
theorem bltP_sound {c : Cx} (hc : CxOk c) {H : Array Obj} {b : Builtin} {ts : Array TypeId} {ty : TypeId} {cs : Array Bool} {xs : List Value} {K : Value → Prop} (h : bltP c b ts xs K) :
    ∃ v, Gives c.P (builtin b ts ty cs xs.toArray) H (Next.value v) ∧ K v := by
  have lift : ∀ {m : Sem Value} {v : Value}, Gives c.P m H v → Gives c.P (do pure (Next.value (← m))) H (Next.value v) := by
    intro m v hm w hw
    rw [Sem.run_bind, hm w hw]
    rfl
  unfold bltP at h
  split at h
  · split at h
    · obtain ⟨t, ht, h⟩ := optP_inv h
      obtain ⟨v, hv, h⟩ := lenP_sound hc (H := H) ht (ty := ty) h
      exact ⟨v, lift hv, h⟩
    · exact h.elim
  · split at h
    · obtain ⟨a, b, rfl, h2⟩ := dC_inv h
      exact ⟨_, lift (Gives.pure _), h2⟩
    · exact h.elim
  · split at h
    · obtain ⟨a, b, rfl, h2⟩ := dC_inv h
      exact ⟨_, lift (Gives.pure _), h2⟩
    · exact h.elim
  · split at h
    · obtain ⟨a, rfl, h2⟩ := dF_inv h
      obtain ⟨b, rfl, h3⟩ := dF_inv h2
      exact ⟨_, lift (m := Builtin.complex_ ts ty #[.float .f64 a, .float .f64 b]) (fun w _ => rfl), h3⟩
    · exact h.elim
  · split at h
    · rename_i k a k' b
      refine ⟨_, lift (m := Builtin.max_ ts ty #[.int k a, .int k' b]) (fun w _ => ?_), h⟩
      simp [Builtin.max_, Builtin.max2, max2]
    · exact h.elim
  · split at h
    · rename_i k a k' b
      refine ⟨_, lift (m := Builtin.min_ ts ty #[.int k a, .int k' b]) (fun w _ => ?_), h⟩
      simp [Builtin.min_, Builtin.min2, min2]
    · exact h.elim
  · split at h
    · obtain ⟨t, ht, h⟩ := optP_inv h
      obtain ⟨i, hi, h⟩ := optP_inv h
      have hi := hc.ti hi
      split at h
      · rename_i x e hd
        obtain ⟨a, n, cp, rfl, h2⟩ := dS_inv h
        refine ⟨_, lift (m := Builtin.cap_ ts ty #[.slice a n cp]) (fun w hw => ?_), h2⟩
        have h1 := hi.gives_u w hw
        rw [hd] at h1
        simp [Builtin.cap_, ht, h1, goInt]
      · exact h.elim
    · exact h.elim
  · exact h.elim
def unP (op : UnOp) (x : Value) (K : Value → Prop) : Prop :=
  match op, x with
  | .not, .bool b => K (.bool (!b))
  | .neg, .int k n => K (.int k (k.wrap (0 - n)))
  | .xor, .int k n => K (.int k (k.wrap (BitVec.ofInt k.bits (if k.signed then -1 else k.max) ^^^ BitVec.ofInt k.bits n).toNat))
  | _, _ => False
theorem unP_sound {P : Program} {H : Array Obj} {op : UnOp} {x : Value} {K : Value → Prop} (h : unP op x K) : ∃ v, Gives P (Op.unary op x) H v ∧ K v := by
  unfold unP at h
  split at h
  · exact ⟨_, Gives.pure _, h⟩
  · exact ⟨_, fun w _ => by simp [Op.unary, Op.intArith], h⟩
  · exact ⟨_, fun w _ => by simp [Op.unary, Op.intBits], h⟩
  · exact h.elim
def nilP (x : Value) (K : Value → Prop) : Prop :=
  match x with
  | .pointer p => optP p fun a => K (.pointer (some a))
  | .func (.func f) fi ca => K (.func (.func f) fi ca)
  | _ => False
def isEq : BinOp → Bool
  | .eql => true | .neq => true
  | _ => false
/-- Neither is nil of an interface type, nor are both structs or arrays: the guard of '==' has nothing to say. -/
def plainEq (x y : Value) : Bool :=
  match x, y with
  | .nilIface, _ => false
  | .agg _, _ => false
  | _, _ => true
/-- structs compared: the run is given by hand -/
def eqRun (P : Program) (op : BinOp) (t : TypeId) (xo yo : Operand) (x y : Value) (b : Bool) : Prop := ∀ w : World, (do eqGuard op t xo yo x y; binOp op t x y : Sem Value).run P w = .ok (.bool b) w
def eqP (P : Program) (op : BinOp) (t : TypeId) (xo yo : Operand) (x y : Value) (K : Value → Prop) : Prop := ∃ b : Bool, eqRun P op t xo yo x y b ∧ K (.bool b)
def evRead (c : Cx) (o : Oper) (ov : Ov) (w : World) (K : Value → Prop) : Prop :=
  match o.op with
  | .move x => opv ov x K
  | .assign x => opv ov x K
  | .pick p a b => opv ov p fun p => dB p fun t => cond t (opv ov a K) (opv ov b K)
  | .load t a => opv ov a fun a => ldP c t a w K
  | .nilCheck x => opv ov x fun x => nilP x K
  | .binOp op t x y _ => opv ov x fun a => opv ov y fun b => cond (plainEq a b) (optP (tget c.tb t) fun i => binP i.desc op a b K) (eqP c.P op t x y a b K)
  | .unOp op _ x => opv ov x fun x => unP op x K
  | .convert s d x => opv ov x fun x => convP c s d x w K
  | .makeInterface t x => opv ov x fun x => optP (tget c.tb t) fun i => (match i.desc with | .interface _ => False | _ => K (.iface t x))
  | .makeFunc fn fi ca => opvs ov fi.toList fun fi => opvs ov ca.toList fun ca => K (.func fn fi.toArray ca.toArray)
  | .slice t x lo hi none => opv ov x fun x => opvo ov lo fun lo => opvo ov hi fun hi => slaceP c t x lo hi K
  | .slice t x lo (some hi) (some mx) => opv ov x fun x => opvo ov lo fun lo => opv ov hi fun hi => opv ov mx fun mx => slace3P c t x lo hi mx K
  | .fieldAddr s x f => opv ov x fun x => faddrP c s x f K
  | .field t x f => opv ov x fun x => fieldP c t x f K
  | .indexAddr t x ix => opv ov x fun x => opv ov ix fun ix => iaddrP c t x ix K
  | .index t x ix => opv ov x fun x => opv ov ix fun ix => indexP c t x ix K
  | .extract t ix => opv ov t fun t => dT t fun vs => optP vs[ix]? fun v => optP (tget c.tb o.type) fun i => dTy i.desc v K
  | .build t parts => opps ov parts.toList fun ps => optP (tget c.tb t) fun i => (match i.desc with
    | .struct fs => optP (fs.toList.mapM fun f => (tget c.tb f.type).map fun j => (f.offset, j.size)) fun pl => optP (Instr.fill (fun i => pl.toArray[i]?) i.zero.toArray ps) fun cs => K (.agg cs)
    | .array _ e => optP (tget c.tb e) fun j => optP (Instr.fill (fun i => some (i * j.size, j.size)) i.zero.toArray ps) fun cs => K (.agg cs)
    | _ => False)
  | .sliceToArrayPointer t x => opv ov x fun x => optP (tget c.tb t) fun i => (match i.desc with
    | .array n _ => dS x fun a len _ => chk (decide (n ≤ len)) (K (.pointer a))
    | _ => False)
  | .typeAssert x _ t ok => opv ov x fun x => optP (tget c.tb t) fun i => (match i.desc with
    | .interface _ => False
    | _ => (match x with
      | .iface u v => chk (decide (u = t)) (dTy i.desc v fun v => K (if ok then .tuple #[v, .bool true] else v))
      | _ => False))
  | .call cl => (match cl.callee with
    | .builtin b => opvs ov cl.args.toList fun xs => bltP c b cl.argTypes xs K
    | _ => False)
  | _ => False

def Yields (c : Cx) (o : Oper) (a : Act) (H : Array Obj) (v : Value) : Prop := Gives c.P (execOp a.eval o) H (Next.value v)

theorem lift_v {P : Program} {H : Array Obj} {m : Sem Value} {v : Value} (hm : Gives P m H v) : Gives P (do pure (Next.value (← m))) H (Next.value v) := by
  intro w hw
  rw [Sem.run_bind, hm w hw]
  rfl
theorem mapM_places {c : Cx} (hc : CxOk c) {H : Array Obj} : ∀ {fs : List Field} {pl : List (Nat × Nat)}, (fs.mapM fun f => (tget c.tb f.type).map fun j => (f.offset, j.size)) = some pl →
    Gives c.P (fs.mapM fun f => do pure (f.offset, ← sizeOf f.type)) H pl
  | [], pl, h => by
    simp only [List.mapM_nil] at h
    obtain rfl : ([] : List (Nat × Nat)) = pl := by simpa using h
    exact Gives.pure _
  | f :: fs, pl, h => by
    simp only [List.mapM_cons] at h
    cases hj : tget c.tb f.type with
    | none => simp [hj] at h
    | some j =>
      have hs := (hc.ti hj).gives_size (H := H)
      cases hr : (fs.mapM fun f => (tget c.tb f.type).map fun j => (f.offset, j.size)) with
      | none => simp [hj, hr] at h
      | some r =>
        have hrec := mapM_places hc (H := H) hr
        simp [hj, hr] at h
        subst h
        intro w hw
        have h1 := hs w hw
        have h2 := hrec w hw
        simp only [bind_pure_comp] at h2
        simp only [List.mapM_cons, bind_pure_comp]
        simp [h1, h2]
theorem gives_fieldsMapM {c : Cx} (hc : CxOk c) {H : Array Obj} {fs : Array Field} {pl : List (Nat × Nat)} (h : (fs.toList.mapM fun f => (tget c.tb f.type).map fun j => (f.offset, j.size)) = some pl) :
    Gives c.P (fs.mapM fun f => do pure (f.offset, ← sizeOf f.type)) H pl.toArray := by
  intro w hw
  rw [Array.mapM_eq_mapM_toList, Sem.run_map]
  rw [mapM_places hc h w hw]
  rfl
theorem TIok.gives_zero {P : Program} {H : Array Obj} {t : TypeId} {i : TI} (h : TIok P t i) : ∃ z, Gives P (zeroValue t) H z ∧ z.cells = i.zero.toArray := by
  obtain ⟨_, _, h3⟩ := h
  cases hq : P.info? t with
  | none => simp [hq] at h3
  | some x =>
    cases hz : x.zero with
    | none => simp [hq, hz] at h3
    | some z =>
      simp [hq, hz] at h3
      refine ⟨z, fun w _ => by simp [zeroValue, typeInfo, hq, hz], ?_⟩
      rw [← h3, Array.toArray_toList]

theorem evRead_sound {c : Cx} (hc : CxOk c) {n : Nat} {o : Oper} {a : Act} {ov : Ov} (hr : Rel n a ov) {w : World} {K : Value → Prop} (h : evRead c o ov w K) :
    ∃ v, Yields c o a w.heap v ∧ K v := by
  unfold evRead at h
  unfold Yields execOp
  split at h <;> first | exact h.elim | (rename_i ho; rw [ho])
  · exact ⟨_, Gives.pure _, opv_inv hr h⟩
  · exact ⟨_, Gives.pure _, opv_inv hr h⟩
  · obtain ⟨t, ht, h⟩ := dB_inv (opv_inv hr h)
    dsimp only
    rw [ht]
    cases t with
    | true => exact ⟨_, Gives.pure _, opv_inv hr h⟩
    | false => exact ⟨_, Gives.pure _, opv_inv hr h⟩
  · obtain ⟨v, hv, h⟩ := ldP_sound hc (opv_inv hr h)
    exact ⟨v, lift_v hv, h⟩
  · have h := opv_inv hr h
    unfold nilP at h
    dsimp only
    split at h
    · rename_i p e
      obtain ⟨b, rfl, h2⟩ := optP_inv h
      rw [e]
      exact ⟨_, Gives.pure _, h2⟩
    · rename_i f fi ca e
      rw [e]
      exact ⟨_, Gives.pure _, h⟩
    · exact h.elim
  · rename_i op t x y yt
    have h := opv_inv hr (opv_inv hr h)
    cases he : plainEq (a.eval x) (a.eval y) with
    | false =>
      rw [he] at h
      obtain ⟨b, hb, h⟩ := h
      exact ⟨.bool b, lift_v fun w' _ => hb w', h⟩
    | true =>
    rw [he] at h
    obtain ⟨i, hi, h⟩ := optP_inv h
    obtain ⟨v, hv, h⟩ := binP_sound (H := w.heap) (hc.ti hi) h
    refine ⟨v, lift_v fun w' hw' => ?_, h⟩
    have hg : (eqGuard op t x y (a.eval x) (a.eval y)).run c.P w' = .ok () w' := by
      unfold eqGuard
      cases hxe : a.eval x <;> rw [hxe] at he <;> first
        | (simp [plainEq] at he; done)
        | (cases op <;> simp <;> rfl)
        | (cases op <;> rfl)
    rw [Sem.run_bind, hg, Result.andThen_ok, hv w' hw']
  · obtain ⟨v, hv, h⟩ := unP_sound (P := c.P) (H := w.heap) (opv_inv hr h)
    exact ⟨v, lift_v hv, h⟩
  · obtain ⟨v, hv, h⟩ := convP_sound hc (opv_inv hr h)
    exact ⟨v, lift_v hv, h⟩
  · rename_i t x
    obtain ⟨i, hi, h⟩ := optP_inv (opv_inv hr h)
    have hi := hc.ti hi
    split at h
    · exact h.elim
    · rename_i hne
      refine ⟨_, lift_v fun w' hw' => ?_, h⟩
      have hu := hi.gives_u w' hw'
      unfold Instr.makeInterface
      rw [Sem.run_bind, hu, Result.andThen_ok]
      cases hd : i.desc <;> first | rfl | exact (hne _ hd).elim
  · rename_i fn fi ca
    have h := opvs_inv hr h
    have h := opvs_inv hr h
    refine ⟨_, lift_v (Gives.pure _), ?_⟩
    have e1 : (fi.toList.map a.eval).toArray = fi.map a.eval := by rw [← Array.toList_map, Array.toArray_toList]
    have e2 : (ca.toList.map a.eval).toArray = ca.map a.eval := by rw [← Array.toList_map, Array.toArray_toList]
    rw [e1, e2] at h
    exact h
  · rename_i t x lo hi
    have h := opv_inv hr h
    have h := opvo_inv hr h
    have h := opvo_inv hr h
    obtain ⟨v, hv, h⟩ := slaceP_sound hc (H := w.heap) h
    exact ⟨v, lift_v hv, h⟩
  · rename_i t x lo hi mx
    have h := opv_inv hr h
    have h := opvo_inv hr h
    have h := opv_inv hr h
    have h := opv_inv hr h
    obtain ⟨v, hv, h⟩ := slace3P_sound hc (H := w.heap) h
    exact ⟨v, lift_v hv, h⟩
  · obtain ⟨v, hv, h⟩ := faddrP_sound hc (H := w.heap) (opv_inv hr h)
    exact ⟨v, lift_v hv, h⟩
  · obtain ⟨v, hv, h⟩ := fieldP_sound hc (H := w.heap) (opv_inv hr h)
    exact ⟨v, lift_v hv, h⟩
  · obtain ⟨v, hv, h⟩ := iaddrP_sound hc (H := w.heap) (opv_inv hr (opv_inv hr h))
    exact ⟨v, lift_v hv, h⟩
  · obtain ⟨v, hv, h⟩ := indexP_sound hc (H := w.heap) (opv_inv hr (opv_inv hr h))
    exact ⟨v, lift_v hv, h⟩
  · rename_i t ix
    obtain ⟨vs, hvs, h⟩ := dT_inv (opv_inv hr h)
    obtain ⟨v, hv, h⟩ := optP_inv h
    obtain ⟨i, hi, h⟩ := optP_inv h
    refine ⟨v, lift_v fun w' _ => ?_, dTy_inv h⟩
    rw [hvs]
    simp [Instr.extract, hv]
  · rename_i t parts
    have h := opps_inv hr h
    obtain ⟨i, hi, h⟩ := optP_inv h
    have hi := hc.ti hi
    obtain ⟨z, hz, hzc⟩ := hi.gives_zero (H := w.heap)
    have hps : (parts.map fun (i, x) => (i, a.eval x)).toList = parts.toList.map fun (i, x) => (i, a.eval x) := by simp
    split at h
    · rename_i fs hd
      obtain ⟨pl, hpl, h⟩ := optP_inv h
      obtain ⟨cs, hcs, h⟩ := optP_inv h
      refine ⟨_, lift_v fun w' hw' => ?_, h⟩
      have hu := hi.gives_u w' hw'
      rw [hd] at hu
      have hm := gives_fieldsMapM hc (H := w.heap) hpl w' hw'
      simp only [bind_pure_comp] at hm
      unfold Instr.build
      rw [Sem.run_bind, hz w' hw', Result.andThen_ok, Sem.run_bind, hu, Result.andThen_ok]
      simp only [bind_pure_comp]
      rw [Sem.run_bind, hm, Result.andThen_ok]
      rw [hzc, hps, hcs]
      rfl
    · rename_i e hd
      obtain ⟨j, hj, h⟩ := optP_inv h
      obtain ⟨cs, hcs, h⟩ := optP_inv h
      refine ⟨_, lift_v fun w' hw' => ?_, h⟩
      have hu := hi.gives_u w' hw'
      rw [hd] at hu
      have hj := (hc.ti hj).gives_size w' hw'
      unfold Instr.build
      rw [Sem.run_bind, hz w' hw', Result.andThen_ok, Sem.run_bind, hu, Result.andThen_ok]
      dsimp only
      rw [Sem.run_bind, hj, Result.andThen_ok]
      rw [hzc, hps, hcs]
      rfl
    · exact h.elim
  · rename_i t x
    obtain ⟨i, hi, h⟩ := optP_inv (opv_inv hr h)
    have hi := hc.ti hi
    split at h
    · rename_i m e hd
      obtain ⟨p, len, cp, hx, h⟩ := dS_inv h
      obtain ⟨h0, h⟩ := chk_inv h
      have h0 : ¬ len < m := by have := of_decide_eq_true h0; omega
      refine ⟨_, lift_v fun w' hw' => ?_, h⟩
      have hu := hi.gives_u w' hw'
      rw [hd] at hu
      rw [hx]
      unfold Instr.arrayAt
      rw [Sem.run_bind, hu, Result.andThen_ok]
      simp [h0]
    · exact h.elim
  · rename_i x xt t ok
    obtain ⟨i, hi, h⟩ := optP_inv (opv_inv hr h)
    have hi := hc.ti hi
    split at h
    · exact h.elim
    · rename_i hne
      split at h
      · rename_i u v hx
        obtain ⟨h0, h⟩ := chk_inv h
        have h0 := of_decide_eq_true h0
        have h2 := dTy_inv h
        clear h
        subst h0
        refine ⟨_, lift_v fun w' hw' => ?_, h2⟩
        have hu := hi.gives_u w' hw'
        rw [hx]
        unfold Instr.typeAssert
        simp only []
        rw [Sem.run_bind, hu, Result.andThen_ok]
        cases hd : i.desc <;> first | exact (hne _ hd).elim | simp
      · exact h.elim
  · rename_i cl
    split at h
    · rename_i b hb
      have h := opvs_inv hr h
      obtain ⟨v, hv, h⟩ := bltP_sound hc (H := w.heap) (ty := o.type) (cs := cl.args.map fun | .const _ => true | _ => false) h
      refine ⟨v, fun w' hw' => ?_, h⟩
      have hv := hv w' hw'
      dsimp only
      unfold resolve
      rw [hb]
      simp only [pure_bind, invoke]
      have e1 : (cl.args.toList.map a.eval).toArray = cl.args.map a.eval := by rw [← Array.toList_map, Array.toArray_toList]
      rw [e1] at hv
      exact hv
    · exact h.elim
end Go.Dec
