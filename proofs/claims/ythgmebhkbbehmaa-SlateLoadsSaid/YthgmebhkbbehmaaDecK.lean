/- Regions that draw their order and also write, make memory or call, as one computed statement. Conditions: none; every theorem is over any program. -/
import Derived.Test.YthgmebhkbbehmaaDecG
import Derived.Orders
namespace Go.Dec
set_option linter.unusedVariables false
set_option linter.unusedSimpArgs false

/-! ### 17b. What is computed -/
def dep (o : Oper) : List Nat := o.after.toList.filterMap fun e => cond (Region.binds .any e) (some e.on) none
def quietB (c : Cx) (o : Oper) : Bool := match o.op with
  | .alloc _ => false
  | .box _ _ => false
  | .store _ _ _ => false
  | .buildSlice _ _ _ => false
  | .makeSlice _ _ _ => false
  | .panic _ => false
  | .convert _ d _ => (match tget c.tb d with
    | some j => (match j.desc with | .slice _ => false | _ => true)
    | none => false)
  | .call cl => (match cl.callee with
    | .builtin b => (match b with | .append => false | .copy => false | .panic => false | _ => true)
    | _ => false)
  | _ => true
/-- Does what it yields hang on memory? -/
def memB (c : Cx) (o : Oper) : Bool := match o.op with
  | .load _ _ => true
  | .convert _ d _ => (match tget c.tb d with
    | some j => (match j.desc with | .int _ => false | .float _ => false | _ => true)
    | none => true)
  | .build _ _ => true
  | .makeInterface _ _ => true
  | .sliceToArrayPointer _ _ => true
  | .typeAssert _ _ _ _ => true
  | .call cl => (match cl.callee with
    | .builtin _ => false
    | _ => true)
  | _ => false
def notSel (o : Oper) : Bool := match o.op with | .select _ _ => false | _ => true
def dstIs (o : Oper) (d : Nat) : Bool := match o.dst with | some e => Nat.beq e d | none => false
/-- Does it write a slot that another operation, which need not come behind it, looks at? -/
def clobB (ops : List Oper) (i : Nat) : Bool := match ops[i]? with
  | some o => (match o.dst with
    | some d => (List.range ops.length).any fun j => match ops[j]? with | some oj => (oj.looksAt ops.toArray).contains d && !(dep oj).contains i | none => false
    | none => false)
  | none => false
/-- Each slot is written once, and read behind its writing; or by what surely comes ahead of it. -/
def okG (ops : List Oper) : Bool :=
  (List.range ops.length).all fun i => match ops[i]? with
    | some o => notSel o && ((o.looksAt ops.toArray).all fun d => (List.range ops.length).all fun j => match ops[j]? with | some oj => !dstIs oj d || (dep o).contains j || ((dep oj).contains i && clobB ops j) | none => true) &&
      ((List.range ops.length).all fun j => Nat.beq i j || (match ops[j]? with | some oj => (match o.dst with | some d => !dstIs oj d | none => true) | none => true))
    | none => true
def rdy (ops : List Oper) (set : List Nat) (i : Nat) : Bool := match ops[i]? with
  | some o => !set.contains i && (dep o).all fun e => set.contains e
  | none => false
def qt (c : Cx) (ops : List Oper) (i : Nat) : Bool := match ops[i]? with | some o => quietB c o && !clobB ops i | none => false
theorem qt_clob {c : Cx} {ops : List Oper} {i : Nat} (h : qt c ops i = true) : clobB ops i = false := by
  unfold qt at h
  split at h
  · simp only [Bool.and_eq_true, Bool.not_eq_true'] at h; exact h.2
  · cases h
def nextQ (c : Cx) (ops : List Oper) (set : List Nat) : Option Nat := (List.range ops.length).find? fun i => qt c ops i && rdy ops set i
def nextE (ops : List Oper) (set : List Nat) : List Nat := (List.range ops.length).filter (rdy ops set)
def clo (ops : List Oper) : Nat → List Nat → List Nat → List Nat
  | 0, _, acc => acc
  | _ + 1, [], acc => acc
  | k + 1, i :: r, acc => cond (acc.contains i) (clo ops k r acc) (clo ops k ((match ops[i]? with | some o => dep o | none => []) ++ r) (i :: acc))
def allP (F : Nat → Prop) : List Nat → Prop
  | [] => True
  | [i] => F i
  | i :: r => F i ∧ allP F r
def reP (c : Cx) (ops : List Oper) (o : Oper) (ov : Ov) (w : World) (K : Prop) : Prop :=
  gP ops o.guard ov (fun ov => match o.op with
    | .load t a => opv ov a fun a => dP a fun p => optP p fun a => optP (tget c.tb t) fun i => optP o.dst fun d => optP (ov.get d) fun v => cond (descAgg i.desc) (dA v fun cs => chk (decide (cs.size = i.size)) (CellsAt w a cs.toList ∧ K)) (w.cell? a = some v ∧ K)
    | _ => optP o.dst fun d => optP (ov.get d) fun v => evRead c o ov w fun v' => v' = v ∧ K) (fun _ => K)
def recheck (c : Cx) (ops : List Oper) (ov : Ov) (w : World) : List Nat → Prop → Prop
  | [], K => K
  | j :: r, K => optP ops[j]? fun o => cond (memB c o) (reP c ops o ov w (recheck c ops ov w r K)) (recheck c ops ov w r K)
def evG (c : Cx) (n : Nat) (ops : List Oper) (Q : Ov → World → Prop) (X : List PanicEntry → World → Prop) : Nat → List Nat → List Nat → Ov → World → Prop
  | 0, _, _, _, _ => False
  | k + 1, set, sure, ov, w => match nextQ c ops set with
    | some i => optP ops[i]? fun o => gP ops o.guard ov
      (fun ov => evRead c o ov w fun v => putP n o.dst v ov fun ov => evG c n ops Q X k (i :: set) sure ov w)
      (fun ov => putP n o.dst undef ov fun ov => evG c n ops Q X k (i :: set) sure ov w)
    | none => match nextE ops set with
      | [] => Q ov w
      | es => allP (fun i => optP ops[i]? fun o => gP ops o.guard ov
        (fun ov => evEff c o ov w (fun v w' => recheck c ops ov w' (set.filter fun j => !(clo ops 200 (dep o) sure).contains j) (putP n o.dst v ov fun ov => evG c n ops Q X k (i :: set) (i :: clo ops 200 (dep o) sure) ov w')) X)
        (fun ov => putP n o.dst undef ov fun ov => evG c n ops Q X k (i :: set) (i :: clo ops 200 (dep o) sure) ov w)) es

/-! ### Slots -/
section
variable {ops : List Oper} {a av : Act} {o : Oper}
theorem eval_same {x : Operand} (h : ∀ t, x = .tmp t → a.tmps[t]? = av.tmps[t]?) : a.eval x = av.eval x := by
  cases x with
  | tmp t => simp only [Act.eval, Array.getD_eq_getD_getElem?, h t rfl]
  | _ => rfl
theorem exec_same (hs : notSel o = true) (h : ∀ d, d ∈ o.looksAt ops.toArray → a.tmps[d]? = av.tmps[d]?) : execOp a.eval o = execOp av.eval o := by
  refine execOp_congr o (fun cs b hb => by simp [notSel, hb] at hs) fun x hx => eval_same fun t ht => h t ?_
  subst ht
  exact List.mem_append_left _ (List.mem_filterMap.2 ⟨.tmp t, by simpa using hx, rfl⟩)
theorem wanted_same (h : ∀ d, d ∈ o.looksAt ops.toArray → a.tmps[d]? = av.tmps[d]?) : Region.wanted o (yielded ops.toArray a.tmps) = Region.wanted o (yielded ops.toArray av.tmps) := by
  unfold Region.wanted
  cases hg : o.guard with
  | none => rfl
  | some gw =>
    obtain ⟨g, want⟩ := gw
    have : yielded ops.toArray a.tmps g = yielded ops.toArray av.tmps g := by
      unfold yielded
      cases ht : (ops.toArray[g]?).bind (·.dst) with
      | none => rfl
      | some t =>
        have := h t (List.mem_append_right _ (by simp only [hg]; rw [ht]; simp))
        simp only [Option.bind_some, this]
    simp only [this]
theorem put_get {d : Option Nat} {v : Value} {j : Nat} (h : d ≠ some j) : (a.put d v).tmps[j]? = a.tmps[j]? := by
  cases d with
  | none => rfl
  | some e =>
    have : e ≠ j := fun x => h (by rw [x])
    simp [Act.put, Array.getElem?_setIfInBounds_ne this]
theorem put_at {d : Nat} {v : Value} (h : d < a.tmps.size) : (a.put (some d) v).tmps[d]? = some v := by simp [Act.put, h]
theorem put_size {d : Option Nat} {v : Value} : (a.put d v).tmps.size = a.tmps.size := by cases d <;> simp [Act.put]
theorem put_defers {d : Option Nat} {v : Value} : (a.put d v).defers = a.defers := by cases d <;> rfl
/-- what an act holds at a place -/
def slot (a : Act) (d : Option Nat) : Value := (d.bind fun d => a.tmps[d]?).getD undef
theorem put_slot (hs : a.tmps.size = av.tmps.size) (d : Option Nat) (v : Value) : a.put d (slot (av.put d v) d) = a.put d v := by
  cases d with
  | none => rfl
  | some d =>
    by_cases h : d < av.tmps.size
    · simp [slot, put_at h]
    · have h2 : ¬ d < a.tmps.size := by omega
      unfold Act.put
      simp only
      rw [Array.setIfInBounds_eq_of_size_le (by omega), Array.setIfInBounds_eq_of_size_le (by omega)]

theorem letsOut_none {X : List PanicEntry → World → Prop} : ¬ LetsOut (fun e _ w => ∃ ch, e = Exit.panic ch ∧ X ch w) := by
  rintro ⟨a, w, ch, h, _⟩
  cases h
/-- An operation that reads the same goes the same way. -/
theorem wp_swap {P : Program} {w : World} {K : Act → World → Prop} {X : List PanicEntry → World → Prop} {Q : Exit → Act → World → Prop} (he : execOp a.eval o = execOp av.eval o) (hs : a.tmps.size = av.tmps.size) (hX : ∀ ch w', X ch w' → Q (.panic ch) a w')
    (h : o.wp P av w (fun a' w' => a'.defers = av.defers ∧ K (a.put o.dst (slot a' o.dst)) w') (fun e _ w' => ∃ ch, e = .panic ch ∧ X ch w')) : o.wp P a w K Q := by
  unfold Oper.wp at *
  rw [he]
  generalize (execOp av.eval o).run P w = r at h ⊢
  have key : ∀ v w', (av.put o.dst v).defers = av.defers ∧ K (a.put o.dst (slot (av.put o.dst v) o.dst)) w' → K (a.put o.dst v) w' := fun v w' h => by rw [put_slot hs] at h; exact h.2
  cases r with
  | ok x w' =>
    cases x with
    | value v => exact key _ _ h
    | skip => exact key _ _ h
    | defer d =>
      exfalso
      have h1 : (({ av with defers := d :: av.defers } : Act).put o.dst undef).defers = av.defers := h.1
      rw [put_defers] at h1
      have := congrArg List.length h1
      simp at this
    | enter f args =>
      simp only [Oper.upon] at h ⊢
      refine Calls.mono h fun e w'' he => ?_
      cases e with
      | returned v => exact key _ _ he
      | panicked ch =>
        obtain ⟨ch', e1, e2⟩ := he
        cases e1
        exact hX _ _ e2
      | outgrown => exact (letsOut_none he).elim
    | row r args =>
      simp only [Oper.upon] at h ⊢
      exact Rows.mono h fun v w'' he => key _ _ he
    | _ => exact h.elim
  | halt x w' =>
    cases x with
    | panic v =>
      obtain ⟨ch, e1, e2⟩ := h
      cases e1
      exact hX _ _ e2
    | _ => exact h.elim
end

/-! ### What was settled -/
def Was (c : Cx) (ops : List Oper) (o : Oper) (v : Value) (a : Act) (H : Array Obj) : Prop :=
  (Region.wanted o (yielded ops.toArray a.tmps) = true ∧ Yields c o a H v) ∨ (Region.wanted o (yielded ops.toArray a.tmps) = false ∧ v = undef)
theorem Was.same {c : Cx} {ops : List Oper} {o : Oper} {v : Value} {a av : Act} {H : Array Obj} (hs : notSel o = true) (h : ∀ d, d ∈ o.looksAt ops.toArray → a.tmps[d]? = av.tmps[d]?) (hw : Was c ops o v av H) : Was c ops o v a H := by
  unfold Was Yields at *
  rw [exec_same hs h, wanted_same h]
  exact hw
theorem Was.wpOp {c : Cx} {ops : List Oper} {o : Oper} {v : Value} {a : Act} {w : World} {i : Nat} (hi : ops[i]? = some o) (h : Was c ops o v a w.heap) {K : Act → World → Prop} {Q : Exit → Act → World → Prop} (hK : K (a.put o.dst v) w) : Go.wpOp c.P ops.toArray Q i K a w := by
  unfold Go.wpOp
  have hi' : ops.toArray[i]? = some o := by simpa using hi
  simp only [hi']
  rcases h with ⟨hw, hv⟩ | ⟨hw, rfl⟩
  · rw [if_pos hw]
    exact .inl (hv.wp hK)
  · rw [if_neg (by simp [hw])]
    exact hK

/-- the settled ones, in their order: each behind what it hangs on -/
def Ord (ops : List Oper) : List Nat → Prop
  | [] => True
  | i :: t => (∃ o, ops[i]? = some o ∧ ∀ e ∈ dep o, e ∈ t) ∧ Ord ops t
theorem okG_at {ops : List Oper} (h : okG ops = true) {i : Nat} {o : Oper} (hi : ops[i]? = some o) :
    notSel o = true ∧ (∀ d ∈ o.looksAt ops.toArray, ∀ j oj, ops[j]? = some oj → oj.dst = some d → j ∈ dep o ∨ (i ∈ dep oj ∧ clobB ops j = true)) ∧ (∀ j oj, ops[j]? = some oj → i ≠ j → ∀ d, o.dst = some d → oj.dst ≠ some d) := by
  have hlt : i < ops.length := (List.getElem?_eq_some_iff.1 hi).1
  have := List.all_eq_true.1 h i (List.mem_range.2 hlt)
  rw [hi] at this
  simp only [Bool.and_eq_true] at this
  obtain ⟨⟨h1, h2⟩, h3⟩ := this
  refine ⟨h1, fun d hd j oj hj hdst => ?_, fun j oj hj hne d hd hdst => ?_⟩
  · have := List.all_eq_true.1 (List.all_eq_true.1 h2 d hd) j (List.mem_range.2 (List.getElem?_eq_some_iff.1 hj).1)
    rw [hj] at this
    simp only [dstIs, hdst, Nat.beq_refl, Bool.not_true, Bool.false_or, Bool.or_eq_true, Bool.and_eq_true] at this
    rcases this with this | ⟨this, h4⟩
    · exact .inl (by simpa using this)
    · exact .inr ⟨by simpa using this, h4⟩
  · have := List.all_eq_true.1 h3 j (List.mem_range.2 (List.getElem?_eq_some_iff.1 hj).1)
    rw [hj] at this
    simp only [hd, dstIs, hdst, Nat.beq_refl, Bool.not_true, Bool.or_false] at this
    exact hne (Nat.eq_of_beq_eq_true this)
/-! ### What does not hang on memory -/
def Det (F : (Value → Prop) → Prop) : Prop := ∀ K, F K → ∃ v, K v ∧ ∀ K' : Value → Prop, K' v → F K'
section
variable {α : Type}
theorem Det.one (v : Value) : Det fun K => K v := fun K h => ⟨v, h, fun _ h => h⟩
theorem Det.no : Det fun _ => False := fun K h => h.elim
theorem Det.chk {b : Bool} {G : (Value → Prop) → Prop} (h : Det G) : Det fun K => Dec.chk b (G K) := fun K hk => by
  obtain ⟨hb, hk⟩ := chk_inv hk
  obtain ⟨v, hv, f⟩ := h K hk
  exact ⟨v, hv, fun K' h' => chk_of hb (f K' h')⟩
theorem Det.cond {b : Bool} {G G' : (Value → Prop) → Prop} (h : Det G) (h' : Det G') : Det fun K => _root_.cond b (G K) (G' K) := by cases b <;> assumption
theorem Det.optP {x : Option α} {G : α → (Value → Prop) → Prop} (h : ∀ v, Det (G v)) : Det fun K => Dec.optP x fun v => G v K := by
  cases x with
  | none => exact Det.no
  | some v => exact h v
theorem Det.opv {ov : Ov} {x : Operand} {G : Value → (Value → Prop) → Prop} (h : ∀ v, Det (G v)) : Det fun K => Dec.opv ov x fun v => G v K := by
  cases x with
  | tmp t => exact Det.optP h
  | _ => exact h _
theorem Det.opvs {ov : Ov} : ∀ {xs : List Operand} {G : List Value → (Value → Prop) → Prop}, (∀ v, Det (G v)) → Det fun K => Dec.opvs ov xs fun v => G v K
  | [], G, h => h []
  | x :: r, G, h => Det.opv (G := fun v K => Dec.opvs ov r fun vs => G (v :: vs) K) fun v => Det.opvs (G := fun vs => G (v :: vs)) fun vs => h _
theorem Det.opvo {ov : Ov} {x : Option Operand} {G : Option Value → (Value → Prop) → Prop} (h : ∀ v, Det (G v)) : Det fun K => Dec.opvo ov x fun v => G v K := by
  cases x with
  | none => exact h none
  | some x => exact Det.opv fun v => h (some v)
theorem Det.dI {k : IntKind} {x : Value} {G : Int → (Value → Prop) → Prop} (h : ∀ v, Det (G v)) : Det fun K => Dec.dI k x fun v => G v K := by
  cases x <;> first | exact Det.no | exact Det.chk (h _)
theorem Det.dB {x : Value} {G : Bool → (Value → Prop) → Prop} (h : ∀ v, Det (G v)) : Det fun K => Dec.dB x fun v => G v K := by
  cases x <;> first | exact Det.no | exact h _
theorem Det.dS {x : Value} {G : Option Addr → Nat → Nat → (Value → Prop) → Prop} (h : ∀ a n c, Det (G a n c)) : Det fun K => Dec.dS x fun a n c => G a n c K := by
  cases x <;> first | exact Det.no | exact h _ _ _
theorem Det.dP {x : Value} {G : Option Addr → (Value → Prop) → Prop} (h : ∀ v, Det (G v)) : Det fun K => Dec.dP x fun v => G v K := by
  cases x <;> first | exact Det.no | exact h _
theorem Det.dA {x : Value} {G : Array Value → (Value → Prop) → Prop} (h : ∀ v, Det (G v)) : Det fun K => Dec.dA x fun v => G v K := by
  cases x <;> first | exact Det.no | exact h _
theorem Det.dT {x : Value} {G : Array Value → (Value → Prop) → Prop} (h : ∀ v, Det (G v)) : Det fun K => Dec.dT x fun v => G v K := by
  cases x <;> first | exact Det.no | exact h _
theorem Det.dStr {x : Value} {G : ByteArray → (Value → Prop) → Prop} (h : ∀ v, Det (G v)) : Det fun K => Dec.dStr x fun v => G v K := by
  cases x <;> first | exact Det.no | exact h _
theorem Det.dM {x : Value} {G : Option Nat → (Value → Prop) → Prop} (h : ∀ v, Det (G v)) : Det fun K => Dec.dM x fun v => G v K := by
  cases x <;> first | exact Det.no | exact h _
theorem Det.dF {x : Value} {G : Nat → (Value → Prop) → Prop} (h : ∀ v, Det (G v)) : Det fun K => Dec.dF x fun v => G v K := by
  cases x <;> first | exact Det.no | (rename_i k _; cases k <;> first | exact Det.no | exact h _)
theorem Det.dC {x : Value} {G : Nat → Nat → (Value → Prop) → Prop} (h : ∀ a b, Det (G a b)) : Det fun K => Dec.dC x fun a b => G a b K := by
  cases x <;> first | exact Det.no | (rename_i k _ _; cases k <;> first | exact Det.no | exact h _ _)
theorem dTy_det {d : TypeDesc} {v : Value} : Det (dTy d v) := by
  cases d <;> first
    | exact Det.dI fun _ => Det.one _
    | exact Det.dB fun _ => Det.one _
    | exact Det.dStr fun _ => Det.one _
    | exact Det.dF fun _ => Det.one _
    | exact Det.dC fun _ _ => Det.one _
    | exact Det.dS fun _ _ _ => Det.one _
    | exact Det.dP fun _ => Det.one _
    | exact Det.dM fun _ => Det.one _
    | exact Det.dA fun _ => Det.one _
    | exact Det.dT fun _ => Det.one _
    | exact Det.one _
theorem binI_det {op : BinOp} {k : IntKind} {a b : Int} : Det (binI op k a b) := by
  cases op <;> first | exact Det.no | exact Det.one _ | exact Det.chk (Det.one _)
theorem binSh_det {op : BinOp} {k : IntKind} {a b : Int} : Det (binSh op k a b) := by
  cases op <;> first | exact Det.no | exact Det.chk (Det.one _)
theorem bEq_det {op : BinOp} {r : Bool} : Det (bEq op r) := by
  cases op <;> first | exact Det.no | exact Det.one _
theorem strCmp_det {op : BinOp} {a b : ByteArray} : Det (strCmp op a b) := by
  cases op <;> first | exact Det.no | exact Det.one _ | exact Det.chk (Det.one _)
theorem binP_det {d : TypeDesc} {op : BinOp} {x y : Value} : Det (binP d op x y) := by
  intro K h
  unfold binP at h
  split at h
  · exact Det.cond binSh_det (Det.chk binI_det) K h
  · exact Det.chk (Det.one _) K h
  · cases op <;> first | exact Det.optP (G := fun r K => Dec.optP _ fun i => K (.complex .f64 r i)) (fun _ => Det.optP fun _ => Det.one _) K h | exact bEq_det K h
  · exact strCmp_det K h
  · split at h
    · exact bEq_det K h
    · exact h.elim
  · split at h
    · exact bEq_det K h
    · exact h.elim
  · split at h
    · exact bEq_det K h
    · exact h.elim
  · exact h.elim
theorem eqP_det {P : Program} {op : BinOp} {t : TypeId} {xo yo : Operand} {x y : Value} : Det (eqP P op t xo yo x y) := fun K ⟨b, hb, h⟩ => ⟨_, h, fun K' h' => ⟨b, hb, h'⟩⟩
theorem unP_det {op : UnOp} {x : Value} : Det (unP op x) := by
  cases op <;> cases x <;> first | exact Det.no | exact Det.one _
theorem nilP_det {x : Value} : Det (nilP x) := by
  cases x <;> first | exact Det.no | exact Det.optP fun _ => Det.one _ | (rename_i f _ _; cases f <;> first | exact Det.no | exact Det.one _)
theorem partP_det {c : Cx} {t : TypeId} {cs : Array Value} {off : Nat} : Det (partP c t cs off) := Det.optP fun i => Det.cond (Det.one _) (Det.optP fun _ => dTy_det)
theorem fieldP_det {c : Cx} {t : TypeId} {x : Value} {f : Nat} : Det (fieldP c t x f) :=
  Det.dA fun cs => Det.optP fun i => by
    generalize i.desc = d
    cases d <;> first | exact Det.no | exact Det.optP fun _ => partP_det
theorem faddrP_det {c : Cx} {t : TypeId} {x : Value} {f : Nat} : Det (faddrP c t x f) :=
  Det.dP fun cs => Det.optP fun a => Det.optP fun i => by
    generalize i.desc = d
    cases d <;> first | exact Det.no | exact Det.optP fun _ => Det.optP fun _ => Det.chk (Det.one _)
theorem iaddrP_det {c : Cx} {t : TypeId} {x ix : Value} : Det (iaddrP c t x ix) := by
  cases ix <;> first
    | exact Det.no
    | (refine Det.chk (Det.optP fun i => ?_)
       generalize i.desc = d
       cases d <;> first
         | exact Det.no
         | exact Det.dP fun p => Det.optP fun a => Det.chk (Det.optP fun ei => Det.one _)
         | exact Det.dS fun p n m => Det.chk (Det.optP fun a => Det.optP fun ei => Det.one _))
theorem indexP_det {c : Cx} {t : TypeId} {x ix : Value} : Det (indexP c t x ix) := by
  cases ix <;> first
    | exact Det.no
    | (refine Det.chk (Det.optP fun i => ?_)
       generalize i.desc = d
       cases d <;> first
         | exact Det.no
         | exact Det.dA fun cs => Det.chk (Det.optP fun ei => partP_det)
         | exact Det.dStr fun s => Det.optP fun b => Det.one _)
theorem hiP_det {hi : Option Value} {n m : Nat} {G : Nat → (Value → Prop) → Prop} (h : ∀ v, Det (G v)) : Det fun K => hiP hi n m fun v => G v K := by
  intro K hk
  unfold hiP at hk
  split at hk
  · exact h _ K hk
  · exact Det.chk (Det.chk (h _)) K hk
  · exact hk.elim
theorem loP_det {lo : Option Value} {n : Nat} {G : Nat → (Value → Prop) → Prop} (h : ∀ v, Det (G v)) : Det fun K => loP lo n fun v => G v K := by
  intro K hk
  unfold loP at hk
  split at hk
  · exact h _ K hk
  · exact Det.chk (Det.chk (h _)) K hk
  · exact hk.elim
theorem slaceP_det {c : Cx} {t : TypeId} {x : Value} {lo hi : Option Value} : Det (slaceP c t x lo hi) :=
  Det.optP fun i => by
    generalize i.desc = d
    cases d <;> first
      | exact Det.no
      | exact Det.dStr fun s => hiP_det fun h => loP_det fun l => Det.one _
      | exact Det.dS fun a n m => Det.optP fun ei => hiP_det fun h => loP_det fun l => Det.one _
      | exact Det.dP fun p => Det.optP fun a => Det.optP fun ei => hiP_det fun h => loP_det fun l => Det.one _
theorem slace3P_det {c : Cx} {t : TypeId} {x : Value} {lo : Option Value} {hi mx : Value} : Det (slace3P c t x lo hi mx) :=
  Det.optP fun i => by
    generalize i.desc = d
    cases d <;> first
      | exact Det.no
      | exact Det.dS fun a n m => Det.optP fun ei => loP_det fun m => loP_det fun h => loP_det fun l => Det.one _
theorem lenP_det {c : Cx} {t : TypeId} {x : Value} : Det (lenP c t x) :=
  Det.optP fun i => by
    generalize i.desc = d
    cases d <;> first
      | exact Det.no
      | exact Det.one _
      | exact Det.dStr fun s => Det.one _
      | exact Det.dS fun a n m => Det.one _
theorem opv_at {ov : Ov} {x : Operand} {K : Value → Prop} (h : opv ov x K) : ∃ v, (∀ K' : Value → Prop, K' v → opv ov x K') ∧ K v := by
  cases x with
  | tmp t =>
    obtain ⟨v, e, h⟩ := optP_inv h
    exact ⟨v, fun K' h' => optP_of e h', h⟩
  | const v => exact ⟨v, fun K' h' => h', h⟩
  | global g => exact ⟨_, fun K' h' => h', h⟩
  | func f => exact ⟨_, fun K' h' => h', h⟩
theorem bltP_det {c : Cx} {b : Builtin} {ts : Array TypeId} {xs : List Value} : Det (bltP c b ts xs) := by
  intro K hk
  unfold bltP at hk
  split at hk <;> try exact hk.elim
  · split at hk
    · exact Det.optP (fun _ => lenP_det) K hk
    · exact hk.elim
  · split at hk
    · exact Det.dC (fun _ _ => Det.one _) K hk
    · exact hk.elim
  · split at hk
    · exact Det.dC (fun _ _ => Det.one _) K hk
    · exact hk.elim
  · split at hk
    · exact Det.dF (fun _ => Det.dF fun _ => Det.one _) K hk
    · exact hk.elim
  · split at hk
    · exact Det.one _ K hk
    · exact hk.elim
  · split at hk
    · exact Det.one _ K hk
    · exact hk.elim
  · split at hk
    · refine Det.optP (fun t => Det.optP fun i => ?_) K hk
      generalize i.desc = d
      cases d <;> first | exact Det.no | exact Det.dS fun _ _ _ => Det.one _
    · exact hk.elim
theorem f2iP_det {k : IntKind} {b : Nat} : Det (f2iP k b) := Det.optP fun n => Det.chk (Det.chk (Det.one _))
theorem convP_det {c : Cx} {s d : TypeId} (hm : (match tget c.tb d with | some j => (match j.desc with | .int _ => false | .float _ => false | _ => true) | none => true) = false) {x : Value} {w : World} {K : Value → Prop} (h : convP c s d x w K) :
    ∃ v, K v ∧ ∀ w', convP c s d x w' fun v' => v' = v := by
  unfold convP at h ⊢
  obtain ⟨i, hi, h⟩ := optP_inv h
  obtain ⟨j, hj, h⟩ := optP_inv h
  rw [hj] at hm
  simp only at hm
  split at h
  · rename_i k hd
    split at h
    · exact ⟨_, h, fun w' => optP_of hi (optP_of hj (by rw [hd]))⟩
    · obtain ⟨v, hv, f⟩ := f2iP_det K h
      exact ⟨v, hv, fun w' => optP_of hi (optP_of hj (by rw [hd]; exact f (fun v' => v' = v) rfl))⟩
    · exact h.elim
  · rename_i hd
    split at h
    · exact ⟨_, h, fun w' => optP_of hi (optP_of hj (by rw [hd]))⟩
    · exact h.elim
  · rename_i hd
    rw [hd] at hm
    exact absurd hm (by decide)
  · exact h.elim
/-- what does not hang on memory yields the same in every world -/
theorem evRead_det {c : Cx} {o : Oper} (hm : memB c o = false) {ov : Ov} {w : World} {K : Value → Prop} (h : evRead c o ov w K) : ∃ v, K v ∧ ∀ w', evRead c o ov w' fun v' => v' = v := by
  unfold evRead at h ⊢
  unfold memB at hm
  have use : ∀ {F : (Value → Prop) → Prop}, Det F → F K → ∃ v, K v ∧ ∀ _ : World, F fun v' => v' = v := fun hd hf => by
    obtain ⟨v, hv, f⟩ := hd K hf
    exact ⟨v, hv, fun _ => f _ rfl⟩
  generalize o.op = p at h hm ⊢
  cases p <;> simp only at hm <;> first
    | exact absurd hm (by decide)
    | exact h.elim
    | exact use (Det.opv fun _ => Det.one _) h
    | exact use (Det.opv fun _ => nilP_det) h
    | exact use (Det.opv fun _ => unP_det) h
    | exact use (Det.opv fun _ => faddrP_det) h
    | exact use (Det.opv fun _ => fieldP_det) h
    | exact use (Det.opv fun _ => Det.opv fun _ => iaddrP_det) h
    | exact use (Det.opv fun _ => Det.opv fun _ => indexP_det) h
    | exact use (Det.opv fun _ => Det.opv fun _ => Det.cond (Det.optP fun _ => binP_det) eqP_det) h
    | exact use (Det.opv fun _ => Det.dT fun _ => Det.optP fun _ => Det.optP fun _ => dTy_det) h
    | exact use (Det.opvs fun _ => Det.opvs fun _ => Det.one _) h
    | exact use (Det.opv fun _ => Det.dB fun _ => Det.cond (Det.opv fun _ => Det.one _) (Det.opv fun _ => Det.one _)) h
    | skip
  · obtain ⟨x, hx, h⟩ := opv_at h
    obtain ⟨v, hv, f⟩ := convP_det hm h
    exact ⟨v, hv, fun w' => hx _ (f w')⟩
  · rename_i t x lo hi mx
    cases mx with
    | none => exact use (Det.opv fun x => Det.opvo fun lo => Det.opvo fun hi => slaceP_det) h
    | some m =>
      cases hi with
      | none => exact h.elim
      | some hi => exact use (Det.opv fun x => Det.opvo fun lo => Det.opv fun hi => Det.opv fun mx => slace3P_det) h
  · rename_i cl
    simp only at h ⊢
    cases hcl : cl.callee with
    | builtin b =>
      rw [hcl] at h hm
      simp only at h hm ⊢
      exact use (Det.opvs fun xs => bltP_det) h
    | _ => rw [hcl] at h; exact h.elim
end

/-! ### That it is sound -/
def Was2 (c : Cx) (ops : List Oper) (o : Oper) (v : Value) (a : Act) (H : Array Obj) : Prop := Was c ops o v a H ∧ (memB c o = false → ∀ H', Was c ops o v a H')
theorem Was2.same {c : Cx} {ops : List Oper} {o : Oper} {v : Value} {a av : Act} {H : Array Obj} (hs : notSel o = true) (h : ∀ d, d ∈ o.looksAt ops.toArray → a.tmps[d]? = av.tmps[d]?) (hw : Was2 c ops o v av H) : Was2 c ops o v a H :=
  ⟨hw.1.same hs h, fun hm H' => (hw.2 hm H').same hs h⟩

structure GInv (c : Cx) (n : Nat) (ops : List Oper) (set sure : List Nat) (ov : Ov) (av a : Act) (L : Array Bool) (w : World) : Prop where
  rel : Rel n av ov
  adef : a.defers = []
  asz : a.tmps.size = n
  lsz : L.size = ops.length
  sub : ∀ i : Nat, L[i]? = some true → i ∈ set
  ord : Ord ops set
  dn : ∀ i : Nat, L[i]? = some true → ∀ o, ops[i]? = some o → ∀ e ∈ dep o, L[e]? = some true
  sur : ∀ i ∈ sure, L[i]? = some true
  hid : ∀ i ∈ set, L[i]? ≠ some true → ∃ o v, ops[i]? = some o ∧ Was2 c ops o v av w.heap ∧ ∀ d, o.dst = some d → d < n → av.tmps[d]? = some v
  eqs : ∀ d, (∀ i ∈ set, L[i]? ≠ some true → ∀ o, ops[i]? = some o → o.dst ≠ some d) → a.tmps[d]? = av.tmps[d]?
  nq : ∀ i ∈ set, L[i]? ≠ some true → clobB ops i = false

theorem Ord.mem {ops : List Oper} : ∀ {set : List Nat}, Ord ops set → ∀ i ∈ set, ∃ o, ops[i]? = some o ∧ ∀ e ∈ dep o, e ∈ set
  | i :: t, ⟨⟨o, ho, hd⟩, ht⟩, j, hj => by
    rcases List.mem_cons.1 hj with rfl | hj
    · exact ⟨o, ho, fun e he => List.mem_cons_of_mem _ (hd e he)⟩
    · obtain ⟨o, ho, hd⟩ := Ord.mem ht j hj
      exact ⟨o, ho, fun e he => List.mem_cons_of_mem _ (hd e he)⟩

theorem mem_dep {o : Oper} {e : Edge} (he : e ∈ o.after) (hb : Region.binds .any e = true) : e.on ∈ dep o := by
  unfold dep
  refine List.mem_filterMap.2 ⟨e, by simpa using he, by rw [hb]; rfl⟩
theorem dep_mem {o : Oper} {j : Nat} (h : j ∈ dep o) : ∃ e, e ∈ o.after ∧ Region.binds .any e = true ∧ e.on = j := by
  obtain ⟨e, he, hj⟩ := List.mem_filterMap.1 h
  cases hb : Region.binds .any e with
  | true => rw [hb] at hj; exact ⟨e, by simpa using he, hb, by simpa using hj⟩
  | false => rw [hb] at hj; cases hj

theorem ready_iff {ops : List Oper} {L : Array Bool} (hl : L.size = ops.length) {i : Nat} :
    i ∈ Region.ready .any ops.toArray L ↔ L[i]? = some false ∧ ∃ o, ops[i]? = some o ∧ ∀ e ∈ dep o, L[e]? = some true := by
  unfold Region.ready
  simp only [List.mem_filter, List.mem_range, List.size_toArray, Bool.and_eq_true, Bool.not_eq_true', List.getElem?_toArray]
  constructor
  · rintro ⟨hi, h1, h2⟩
    have hi' : i < L.size := by omega
    refine ⟨?_, ?_⟩
    · rw [Array.getElem?_eq_getElem hi']
      rw [Array.getD_eq_getD_getElem?, Array.getElem?_eq_getElem hi'] at h1
      simpa using h1
    · have ho : ops[i]? = some ops[i] := List.getElem?_eq_getElem hi
      rw [ho] at h2
      refine ⟨_, ho, fun j hj => ?_⟩
      obtain ⟨e, he, hb, rfl⟩ := dep_mem hj
      simp only [Option.map_some, Option.getD_some] at h2
      have := Array.all_eq_true'.1 h2 e he
      rw [hb] at this
      simp only [Bool.not_true, Bool.false_or, Array.getD_eq_getD_getElem?] at this
      cases hx : L[e.on]? with
      | none => rw [hx] at this; cases this
      | some b => rw [hx] at this; simp at this; rw [this]
  · rintro ⟨h1, o, ho, hd⟩
    have hi : i < ops.length := (List.getElem?_eq_some_iff.1 ho).1
    refine ⟨hi, by rw [Array.getD_eq_getD_getElem?, h1]; rfl, ?_⟩
    rw [ho]
    simp only [Option.map_some, Option.getD_some]
    refine Array.all_eq_true'.2 fun e he => ?_
    cases hb : Region.binds .any e with
    | false => rfl
    | true =>
      have := hd _ (mem_dep he hb)
      rw [Array.getD_eq_getD_getElem?, this]
      rfl

theorem rdy_iff {ops : List Oper} {set : List Nat} {i : Nat} : rdy ops set i = true ↔ i ∉ set ∧ ∃ o, ops[i]? = some o ∧ ∀ e ∈ dep o, e ∈ set := by
  unfold rdy
  cases ho : ops[i]? with
  | none => simp
  | some o => simp

section
variable {c : Cx} {n : Nat} {ops : List Oper} {set sure : List Nat} {ov : Ov} {av a : Act} {L : Array Bool} {w : World}

theorem GInv.unl (g : GInv c n ops set sure ov av a L w) {i : Nat} (h : i ∉ set) : L[i]? ≠ some true := fun e => h (g.sub i e)
/-- nothing that is ready is left: all that is settled is listed -/
theorem GInv.all_listed (g : GInv c n ops set sure ov av a L w) (h : Region.ready .any ops.toArray L = []) : ∀ i ∈ set, L[i]? = some true := by
  have key : ∀ s : List Nat, Ord ops s → ∀ i ∈ s, L[i]? = some true := by
    intro s
    induction s with
    | nil => intro _ i hi; cases hi
    | cons j t ih =>
      rintro ⟨⟨o, ho, hd⟩, ht⟩ i hi
      rcases List.mem_cons.1 hi with rfl | hi
      · have hlt : i < L.size := by rw [g.lsz]; exact (List.getElem?_eq_some_iff.1 ho).1
        cases hx : L[i]? with
        | none => rw [Array.getElem?_eq_none_iff] at hx; omega
        | some b =>
          cases b with
          | true => rfl
          | false =>
            have : i ∈ Region.ready .any ops.toArray L := (ready_iff g.lsz).2 ⟨hx, o, ho, fun e he => ih ht e (hd e he)⟩
            rw [h] at this
            cases this
      · exact ih ht i hi
  exact key set g.ord

/-- the slots that a ready operation looks at are the same in truth and in the statement -/
theorem GInv.look (g : GInv c n ops set sure ov av a L w) (hok : okG ops = true) {i : Nat} {o : Oper} (ho : ops[i]? = some o) (hd : ∀ e ∈ dep o, L[e]? = some true) : ∀ d, d ∈ o.looksAt ops.toArray → a.tmps[d]? = av.tmps[d]? := by
  intro d hl
  refine g.eqs d fun j hj hun oj hoj hdst => hun ?_
  rcases (okG_at hok ho).2.1 d hl j oj hoj hdst with h | ⟨_, h⟩
  · exact hd j h
  · rw [g.nq j hj hun] at h; cases h

theorem GInv.settle (g : GInv c n ops set sure ov av a L w) (hok : okG ops = true) {i : Nat} (hr : rdy ops set i = true) {o : Oper} (ho : ops[i]? = some o) {v : Value} {ov' : Ov} (hrel : Rel n (av.put o.dst v) ov') (hw : Was2 c ops o v av w.heap) (hq : clobB ops i = false) :
    GInv c n ops (i :: set) sure ov' (av.put o.dst v) a L w := by
  obtain ⟨hi, o', ho', hd⟩ := rdy_iff.1 hr
  rw [ho] at ho'
  cases ho'
  obtain ⟨k1, k2, k3⟩ := okG_at hok ho
  have hun : L[i]? ≠ some true := g.unl hi
  refine ⟨hrel, g.adef, g.asz, g.lsz, fun j hj => List.mem_cons_of_mem _ (g.sub j hj), ⟨⟨o, ho, hd⟩, g.ord⟩, g.dn, g.sur, ?_, ?_, fun j hj hu => ?_⟩
  · intro j hj hu
    rcases List.mem_cons.1 hj with rfl | hj
    · refine ⟨o, v, ho, hw.same k1 fun d hl => put_get fun e => ?_, fun d hdst hlt => ?_⟩
      · rcases k2 d hl _ o ho e with h | ⟨h, _⟩ <;> exact hi (hd _ h)
      · rw [hdst]
        exact put_at (by rw [g.rel.2.1]; exact hlt)
    · obtain ⟨oj, u, hoj, hwj, hsj⟩ := g.hid j hj hu
      obtain ⟨oj', hoj', hdj⟩ := g.ord.mem j hj
      rw [hoj] at hoj'
      cases hoj'
      obtain ⟨m1, m2, m3⟩ := okG_at hok hoj
      refine ⟨oj, u, hoj, hwj.same m1 fun d hl => put_get fun e => ?_, fun d hdst hlt => ?_⟩
      · rcases m2 d hl i o ho e with h | ⟨_, h⟩
        · exact hi (hdj _ h)
        · rw [hq] at h; cases h
      · rw [put_get fun e => ?_]
        · exact hsj d hdst hlt
        · exact m3 i o ho (fun e => hi (e ▸ hj)) d hdst e
  · intro d hd'
    have hne : o.dst ≠ some d := hd' i (List.mem_cons_self ..) hun o ho
    rw [put_get hne]
    exact g.eqs d fun j hj hu => hd' j (List.mem_cons_of_mem _ hj) hu
  · rcases List.mem_cons.1 hj with rfl | hj
    · exact hq
    · exact g.nq j hj hu

theorem set_get {i j : Nat} (h : (L.setIfInBounds i true)[j]? = some true) : j = i ∨ L[j]? = some true := by
  rw [Array.getElem?_setIfInBounds] at h
  by_cases e : i = j
  · exact .inl e.symm
  · rw [if_neg e] at h; exact .inr h
theorem get_set {i j : Nat} (h : L[j]? = some true) : (L.setIfInBounds i true)[j]? = some true := by
  rw [Array.getElem?_setIfInBounds]
  by_cases e : i = j
  · subst e
    have : i < L.size := (Array.getElem?_eq_some_iff.1 h).1
    rw [if_pos rfl, if_pos this]
  · rw [if_neg e]; exact h
theorem get_set_self {i : Nat} (h : i < L.size) : (L.setIfInBounds i true)[i]? = some true := by
  rw [Array.getElem?_setIfInBounds, if_pos rfl, if_pos h]

theorem GInv.list (g : GInv c n ops set sure ov av a L w) (hok : okG ops = true) {i : Nat} {o : Oper} (ho : ops[i]? = some o) (hi : i ∈ set) (hu : L[i]? ≠ some true) (hd : ∀ e ∈ dep o, L[e]? = some true) :
    ∃ v, Was c ops o v a w.heap ∧ GInv c n ops set sure ov av (a.put o.dst v) (L.setIfInBounds i true) w := by
  obtain ⟨o', v, ho', hw, hs⟩ := g.hid i hi hu
  rw [ho] at ho'
  cases ho'
  have hlt : i < L.size := by rw [g.lsz]; exact (List.getElem?_eq_some_iff.1 ho).1
  refine ⟨v, (hw.same (okG_at hok ho).1 (g.look hok ho hd)).1, g.rel, by rw [put_defers]; exact g.adef, by rw [put_size]; exact g.asz, by simp [g.lsz], ?_, g.ord, ?_, fun j hj => get_set (g.sur j hj), ?_, ?_, fun j hj hun => g.nq j hj fun e => hun (get_set e)⟩
  · intro j hj
    rcases set_get hj with rfl | hj
    · exact hi
    · exact g.sub j hj
  · intro j hj oj hoj e he
    rcases set_get hj with rfl | hj
    · rw [ho] at hoj; cases hoj
      exact get_set (hd e he)
    · exact get_set (g.dn j hj oj hoj e he)
  · intro j hj hun
    exact g.hid j hj fun e => hun (get_set e)
  · intro d hdd
    by_cases e : o.dst = some d
    · rw [e]
      by_cases hn : d < n
      · rw [put_at (by rw [g.asz]; exact hn), hs d e hn]
      · rw [Array.getElem?_eq_none (by rw [put_size, g.asz]; exact Nat.le_of_not_lt hn), Array.getElem?_eq_none (by rw [g.rel.2.1]; exact Nat.le_of_not_lt hn)]
    · rw [put_get e]
      refine g.eqs d fun j hj hun oj hoj => ?_
      by_cases hij : j = i
      · subst hij
        rw [ho] at hoj; cases hoj
        exact e
      · refine hdd j hj (fun h => ?_) oj hoj
        rcases set_get h with h | h
        · exact hij h
        · exact hun h

theorem clo_listed (hc : ∀ i : Nat, L[i]? = some true → ∀ o, ops[i]? = some o → ∀ e ∈ dep o, L[e]? = some true) : ∀ (k : Nat) (todo acc : List Nat), (∀ i ∈ todo, L[i]? = some true) → (∀ i ∈ acc, L[i]? = some true) → ∀ i ∈ clo ops k todo acc, L[i]? = some true
  | 0, _, acc, _, ha => ha
  | _ + 1, [], acc, _, ha => ha
  | k + 1, i :: r, acc, ht, ha => by
    unfold clo
    cases acc.contains i with
    | true => exact clo_listed hc k r acc (fun j hj => ht j (List.mem_cons_of_mem _ hj)) ha
    | false =>
      refine clo_listed hc k _ _ (fun j hj => ?_) (fun j hj => ?_)
      · rcases List.mem_append.1 hj with hj | hj
        · cases ho : ops[i]? with
          | none => rw [ho] at hj; cases hj
          | some o => rw [ho] at hj; exact hc i (ht i (List.mem_cons_self ..)) o ho j hj
        · exact ht j (List.mem_cons_of_mem _ hj)
      · rcases List.mem_cons.1 hj with rfl | hj
        · exact ht _ (List.mem_cons_self ..)
        · exact ha j hj

/-- an operation that is not settled ahead is done -/
theorem GInv.step (g : GInv c n ops set sure ov av a L w) (hok : okG ops = true) {i : Nat} (hr : rdy ops set i = true) {o : Oper} (ho : ops[i]? = some o) (hd : ∀ e ∈ dep o, L[e]? = some true) {v : Value} {ov' : Ov} {w' : World} (hrel : Rel n (av.put o.dst v) ov')
    (hre : ∀ j ∈ set, j ∉ clo ops 200 (dep o) sure → ∀ oj, ops[j]? = some oj → ∀ u, Was2 c ops oj u av w.heap → (∀ d, oj.dst = some d → d < n → av.tmps[d]? = some u) → Was2 c ops oj u av w'.heap) :
    GInv c n ops (i :: set) (i :: clo ops 200 (dep o) sure) ov' (av.put o.dst v) (a.put o.dst v) (L.setIfInBounds i true) w' := by
  obtain ⟨hi, o', ho', hds⟩ := rdy_iff.1 hr
  rw [ho] at ho'
  cases ho'
  obtain ⟨k1, k2, k3⟩ := okG_at hok ho
  have hlt : i < L.size := by rw [g.lsz]; exact (List.getElem?_eq_some_iff.1 ho).1
  have hcl := clo_listed g.dn 200 (dep o) sure hd g.sur
  refine ⟨hrel, by rw [put_defers]; exact g.adef, by rw [put_size]; exact g.asz, by simp [g.lsz], ?_, ⟨⟨o, ho, hds⟩, g.ord⟩, ?_, ?_, ?_, ?_, fun j hj hun => ?_⟩
  · intro j hj
    rcases set_get hj with rfl | hj
    · exact List.mem_cons_self ..
    · exact List.mem_cons_of_mem _ (g.sub j hj)
  · intro j hj oj hoj e he
    rcases set_get hj with rfl | hj
    · rw [ho] at hoj; cases hoj
      exact get_set (hd e he)
    · exact get_set (g.dn j hj oj hoj e he)
  · intro j hj
    rcases List.mem_cons.1 hj with rfl | hj
    · exact get_set_self hlt
    · exact get_set (hcl j hj)
  · intro j hj hun
    have hji : j ≠ i := fun e => hun (by rw [e]; exact get_set_self hlt)
    have hj : j ∈ set := by
      rcases List.mem_cons.1 hj with h | h
      · exact (hji h).elim
      · exact h
    have hun' : L[j]? ≠ some true := fun e => hun (get_set e)
    obtain ⟨oj, u, hoj, hwj, hsj⟩ := g.hid j hj hun'
    obtain ⟨oj', hoj', hdj⟩ := g.ord.mem j hj
    rw [hoj] at hoj'
    cases hoj'
    obtain ⟨m1, m2, m3⟩ := okG_at hok hoj
    have hnc : j ∉ clo ops 200 (dep o) sure := fun h => hun' (hcl j h)
    refine ⟨oj, u, hoj, (hre j hj hnc oj hoj u hwj hsj).same m1 fun d hl => put_get fun e => ?_, fun d hdst hlt => ?_⟩
    · rcases m2 d hl i o ho e with h | ⟨h, _⟩
      · exact hi (hdj _ h)
      · exact hun' (hd _ h)
    · rw [put_get fun e => ?_]
      · exact hsj d hdst hlt
      · exact m3 i o ho hji d hdst e
  · intro d hdd
    by_cases e : o.dst = some d
    · rw [e]
      by_cases hn : d < n
      · rw [put_at (by rw [g.asz]; exact hn), put_at (by rw [g.rel.2.1]; exact hn)]
      · rw [Array.getElem?_eq_none (by rw [put_size, g.asz]; exact Nat.le_of_not_lt hn), Array.getElem?_eq_none (by rw [put_size, g.rel.2.1]; exact Nat.le_of_not_lt hn)]
    · rw [put_get e, put_get e]
      refine g.eqs d fun j hj hun oj hoj => ?_
      have hji : j ≠ i := fun e => hi (e ▸ hj)
      refine hdd j (List.mem_cons_of_mem _ hj) (fun h => ?_) oj hoj
      rcases set_get h with h | h
      · exact hji h
      · exact hun h
  · have hji : j ≠ i := fun e => hun (by rw [e]; exact get_set_self hlt)
    rcases List.mem_cons.1 hj with h | h
    · exact (hji h).elim
    · exact g.nq j h fun e => hun (get_set e)
end

theorem count_set {L : Array Bool} {i : Nat} (h : L[i]? = some false) : (L.setIfInBounds i true).toList.count false + 1 = L.toList.count false := by
  have hlt : i < L.toList.length := by simpa using (Array.getElem?_eq_some_iff.1 h).1
  rw [Array.toList_setIfInBounds, List.count_set hlt]
  have e : L.toList[i] = false := by
    have := (Array.getElem?_eq_some_iff.1 h).2
    simpa using this
  have hm : false ∈ L.toList := by rw [← e]; exact List.getElem_mem _
  have := List.count_pos_iff.2 hm
  rw [e, show (if (false == false) = true then 1 else 0) = 1 from rfl, show (if (true == false) = true then 1 else 0) = 0 from rfl]
  omega
theorem count_zero {L : Array Bool} (h : L.toList.count false = 0) {i : Nat} : L[i]? ≠ some false := by
  intro hi
  have hlt := (Array.getElem?_eq_some_iff.1 hi)
  have : false ∈ L.toList := by
    rw [← hlt.2, ← Array.getElem_toList]
    exact List.getElem_mem _
  exact (List.count_eq_zero.1 h) this

theorem nextQ_some {c : Cx} {ops : List Oper} {set : List Nat} {i : Nat} (h : nextQ c ops set = some i) : rdy ops set i = true := by
  have := List.find?_some h
  simp only [Bool.and_eq_true] at this
  exact this.2
theorem nextQ_clob {c : Cx} {ops : List Oper} {set : List Nat} {i : Nat} (h : nextQ c ops set = some i) : clobB ops i = false := by
  have := List.find?_some h
  simp only [Bool.and_eq_true] at this
  exact qt_clob this.1
theorem mem_nextE {ops : List Oper} {set : List Nat} {i : Nat} : i ∈ nextE ops set ↔ rdy ops set i = true := by
  unfold nextE
  rw [List.mem_filter, List.mem_range]
  refine ⟨fun h => h.2, fun h => ⟨?_, h⟩⟩
  obtain ⟨_, o, ho, _⟩ := rdy_iff.1 h
  exact (List.getElem?_eq_some_iff.1 ho).1
theorem allP_mem {F : Nat → Prop} : ∀ {l : List Nat}, allP F l → ∀ i ∈ l, F i
  | [j], h, i, hi => by
    have : i = j := by simpa using hi
    subst this
    exact h
  | j :: k :: r, h, i, hi => by
    rcases List.mem_cons.1 hi with rfl | hi
    · exact h.1
    · exact allP_mem (l := k :: r) h.2 i hi

/-- settled again behind an effect -/
theorem reP_inv {c : Cx} (hc : CxOk c) {n : Nat} {ops : List Oper} {o : Oper} {ov : Ov} {av : Act} (hr : Rel n av ov) {H : Array Obj} {w' : World} {K : Prop} (hm : memB c o = true) (h : reP c ops o ov w' K) :
    K ∧ ∀ u, Was2 c ops o u av H → (∀ d, o.dst = some d → d < n → av.tmps[d]? = some u) → Was2 c ops o u av w'.heap := by
  have nomem : ∀ {u} {H' : Array Obj}, Was c ops o u av H' → Was2 c ops o u av H' := fun hw => ⟨hw, fun hf => by rw [hm] at hf; cases hf⟩
  unfold reP at h
  rcases gP_inv hr h with ⟨hw, ov', hr', h⟩ | ⟨hw, ov', hr', h⟩
  · have get : ∀ {d : Nat} {v : Value}, o.dst = some d → ov'.get d = some v → ∀ u, (∀ d, o.dst = some d → d < n → av.tmps[d]? = some u) → v = u := by
      intro d v hd hv u hu
      have h1 := hr'.2.2 d v hv
      have hlt : d < n := by rw [← hr'.2.1]; exact (Array.getElem?_eq_some_iff.1 h1).1
      have h2 := hu d hd hlt
      rw [h1] at h2
      exact Option.some.inj h2
    split at h
    · rename_i t x hop
      have h := opv_inv hr' h
      obtain ⟨p, hp, h⟩ := dP_inv h
      cases p with
      | none => exact h.elim
      | some a =>
      change optP (tget c.tb t) _ at h
      obtain ⟨i, hi, h⟩ := optP_inv h
      obtain ⟨d, hd, h⟩ := optP_inv h
      obtain ⟨v, hv, h⟩ := optP_inv h
      have hti := hc.ti hi
      cases ha : descAgg i.desc with
      | true =>
        rw [ha] at h
        obtain ⟨cs, rfl, h⟩ := dA_inv h
        obtain ⟨hs, h1, hK⟩ := chk_inv h
        refine ⟨hK, fun u _ hu => nomem (.inl ⟨hw, ?_⟩)⟩
        obtain rfl := get hd hv u hu
        have := gives_loadAt_row hc hti ha (of_decide_eq_true hs) h1
        unfold Yields execOp
        simp only [hop, hp]
        exact lift_v this
      | false =>
        rw [ha] at h
        refine ⟨h.2, fun u _ hu => nomem (.inl ⟨hw, ?_⟩)⟩
        obtain rfl := get hd hv u hu
        have := gives_loadAt_one hc hti ha h.1
        unfold Yields execOp
        simp only [hop, hp]
        exact lift_v this
    · obtain ⟨d, hd, h⟩ := optP_inv h
      obtain ⟨v, hv, h⟩ := optP_inv h
      obtain ⟨v', hy, rfl, hK⟩ := evRead_sound hc hr' h
      refine ⟨hK, fun u _ hu => nomem (.inl ⟨hw, ?_⟩)⟩
      obtain rfl := get hd hv u hu
      exact hy
  · refine ⟨h, fun u hu _ => nomem (.inr ⟨hw, ?_⟩)⟩
    rcases hu.1 with ⟨h1, _⟩ | ⟨_, h2⟩
    · rw [hw] at h1; cases h1
    · exact h2
theorem recheck_inv {c : Cx} (hc : CxOk c) {n : Nat} {ops : List Oper} {ov : Ov} {av : Act} (hr : Rel n av ov) {H : Array Obj} {w' : World} : ∀ {l : List Nat} {K : Prop}, recheck c ops ov w' l K →
    K ∧ ∀ j ∈ l, ∀ o, ops[j]? = some o → ∀ u, Was2 c ops o u av H → (∀ d, o.dst = some d → d < n → av.tmps[d]? = some u) → Was2 c ops o u av w'.heap
  | [], K, h => ⟨h, fun j hj => by cases hj⟩
  | i :: r, K, h => by
    obtain ⟨o, ho, h⟩ := optP_inv h
    cases hm : memB c o with
    | true =>
      rw [hm] at h
      obtain ⟨h2, h1⟩ := reP_inv hc hr (H := H) hm h
      obtain ⟨hK, h3⟩ := recheck_inv hc hr (H := H) h2
      refine ⟨hK, fun j hj oj hoj => ?_⟩
      rcases List.mem_cons.1 hj with rfl | hj
      · rw [ho] at hoj; cases hoj
        exact h1
      · exact h3 j hj oj hoj
    | false =>
      rw [hm] at h
      obtain ⟨hK, h3⟩ := recheck_inv hc hr (H := H) h
      refine ⟨hK, fun j hj oj hoj => ?_⟩
      rcases List.mem_cons.1 hj with rfl | hj
      · rw [ho] at hoj; cases hoj
        exact fun u hu _ => ⟨hu.2 hm _, hu.2⟩
      · exact h3 j hj oj hoj

section
variable {c : Cx} {n : Nat} {ops : List Oper} {set sure : List Nat} {ov : Ov} {av a : Act} {L : Array Bool} {w : World} {Q : Ov → World → Prop} {X : List PanicEntry → World → Prop}
theorem settle_yes (hc : CxOk c) (hok : okG ops = true) (g : GInv c n ops set sure ov av a L w) {i : Nat} (hq : clobB ops i = false) (hr : rdy ops set i = true) {o : Oper} (ho : ops[i]? = some o) (hw : Region.wanted o (yielded ops.toArray av.tmps) = true) {ov' : Ov} (hr' : Rel n av ov') {k : Nat}
    (h : evRead c o ov' w fun v => putP n o.dst v ov' fun ov => evG c n ops Q X k (i :: set) sure ov w) : ∃ ov2 v, GInv c n ops (i :: set) sure ov2 (av.put o.dst v) a L w ∧ evG c n ops Q X k (i :: set) sure ov2 w := by
  cases hm : memB c o with
  | true =>
    obtain ⟨v, hy, h⟩ := evRead_sound hc hr' h
    obtain ⟨ov2, hr2, h2⟩ := putP_inv hr' h
    exact ⟨ov2, v, g.settle hok hr ho hr2 ⟨.inl ⟨hw, hy⟩, fun hf => by rw [hm] at hf; cases hf⟩ hq, h2⟩
  | false =>
    obtain ⟨v, h, f⟩ := evRead_det hm h
    obtain ⟨ov2, hr2, h2⟩ := putP_inv hr' h
    have all : ∀ H, Yields c o av H v := fun H => by
      obtain ⟨v', hy, rfl⟩ := evRead_sound hc hr' (f { w with heap := H })
      exact hy
    exact ⟨ov2, v, g.settle hok hr ho hr2 ⟨.inl ⟨hw, all _⟩, fun _ H => .inl ⟨hw, all H⟩⟩ hq, h2⟩
theorem settle_no (hok : okG ops = true) (g : GInv c n ops set sure ov av a L w) {i : Nat} (hq : clobB ops i = false) (hr : rdy ops set i = true) {o : Oper} (ho : ops[i]? = some o) (hw : Region.wanted o (yielded ops.toArray av.tmps) = false) {ov' : Ov} (hr' : Rel n av ov') {k : Nat}
    (h : putP n o.dst undef ov' fun ov => evG c n ops Q X k (i :: set) sure ov w) : ∃ ov2, GInv c n ops (i :: set) sure ov2 (av.put o.dst undef) a L w ∧ evG c n ops Q X k (i :: set) sure ov2 w := by
  obtain ⟨ov2, hr2, h2⟩ := putP_inv hr' h
  exact ⟨ov2, g.settle hok hr ho hr2 ⟨.inr ⟨hw, rfl⟩, fun _ H => .inr ⟨hw, rfl⟩⟩ hq, h2⟩
theorem last {Q' : Exit → Act → World → Prop} (hQ : ∀ a ov w, Rel n a ov → Q ov w → Q' .normal a w) (hok : okG ops = true) (g : GInv c n ops set sure ov av a L w) (hready : Region.ready .any ops.toArray L = []) {F : List Nat → Prop}
    (h : match nextE ops set with | [] => Q ov w | es => F es) : Q' .normal a w := by
  have hall := g.all_listed hready
  have hE : nextE ops set = [] := by
    refine List.eq_nil_iff_forall_not_mem.2 fun i hi => ?_
    obtain ⟨his, o, ho, hd⟩ := rdy_iff.1 (mem_nextE.1 hi)
    have hlt : i < L.size := by rw [g.lsz]; exact (List.getElem?_eq_some_iff.1 ho).1
    have hLi : L[i]? = some false := by
      cases hx : L[i]? with
      | none => rw [Array.getElem?_eq_none_iff] at hx; omega
      | some b =>
        cases b with
        | true => exact (g.unl his hx).elim
        | false => rfl
    have : i ∈ Region.ready .any ops.toArray L := (ready_iff g.lsz).2 ⟨hLi, o, ho, fun e he => hall e (hd e he)⟩
    rw [hready] at this
    cases this
  rw [hE] at h
  refine hQ a ov w ⟨g.adef, g.asz, fun d v hv => ?_⟩ h
  rw [g.eqs d fun i hi hu => (hu (hall i hi)).elim]
  exact g.rel.2.2 d v hv
end

theorem evG_sound {c : Cx} (hc : CxOk c) {n : Nat} {ops : List Oper} (hok : okG ops = true) {Q : Ov → World → Prop} {X : List PanicEntry → World → Prop} {Q' : Exit → Act → World → Prop}
    (hQ : ∀ a ov w, Rel n a ov → Q ov w → Q' .normal a w) (hX : ∀ a ch w, Rel n a [] → X ch w → Q' (.panic ch) a w) :
    ∀ (fuel k : Nat) (set sure : List Nat) (ov : Ov) (av a : Act) (L : Array Bool) (w : World), GInv c n ops set sure ov av a L w → L.toList.count false ≤ fuel → evG c n ops Q X k set sure ov w → wpAny c.P .any ops.toArray Q' fuel L a w := by
  intro fuel
  induction fuel with
  | zero =>
    intro k
    induction k with
    | zero => exact fun _ _ _ _ _ _ _ _ _ h => h.elim
    | succ k ih =>
      intro set sure ov av a L w g hcount h
      unfold evG at h
      split at h
      · rename_i i hi
        obtain ⟨o, ho, h⟩ := optP_inv h
        have hr := nextQ_some hi
        rcases gP_inv g.rel h with ⟨hw, ov', hr', h⟩ | ⟨hw, ov', hr', h⟩
        · exact (settle_yes hc hok g (nextQ_clob hi) hr ho hw hr' h).elim fun ov2 ⟨v, g2, h2⟩ => ih _ _ _ _ _ _ _ g2 hcount h2
        · exact (settle_no hok g (nextQ_clob hi) hr ho hw hr' h).elim fun ov2 ⟨g2, h2⟩ => ih _ _ _ _ _ _ _ g2 hcount h2
      · have hready : Region.ready .any ops.toArray L = [] := by
          refine List.eq_nil_iff_forall_not_mem.2 fun i hi => ?_
          exact count_zero (Nat.le_zero.1 hcount) ((ready_iff g.lsz).1 hi).1
        exact ⟨hready, last hQ hok g hready h⟩
  | succ fuel ihf =>
    intro k
    induction k with
    | zero => exact fun _ _ _ _ _ _ _ _ _ h => h.elim
    | succ k ih =>
      intro set sure ov av a L w g hcount h
      have h0 := h
      unfold evG at h
      split at h
      · rename_i i hi
        obtain ⟨o, ho, h⟩ := optP_inv h
        have hr := nextQ_some hi
        rcases gP_inv g.rel h with ⟨hw, ov', hr', h⟩ | ⟨hw, ov', hr', h⟩
        · exact (settle_yes hc hok g (nextQ_clob hi) hr ho hw hr' h).elim fun ov2 ⟨v, g2, h2⟩ => ih _ _ _ _ _ _ _ g2 hcount h2
        · exact (settle_no hok g (nextQ_clob hi) hr ho hw hr' h).elim fun ov2 ⟨g2, h2⟩ => ih _ _ _ _ _ _ _ g2 hcount h2
      · refine ⟨fun hready => last hQ hok g hready h, fun i hi => ?_⟩
        obtain ⟨hLi, o, ho, hd⟩ := (ready_iff g.lsz).1 hi
        have hun : L[i]? ≠ some true := by rw [hLi]; simp
        have hc1 := count_set hLi
        by_cases his : i ∈ set
        · obtain ⟨v, hw, g2⟩ := g.list hok ho his hun hd
          exact hw.wpOp ho (ihf _ _ _ _ _ _ _ _ g2 (by omega) h0)
        · have hr : rdy ops set i = true := rdy_iff.2 ⟨his, o, ho, fun e he => g.sub e (hd e he)⟩
          have hmem := mem_nextE.2 hr
          split at h
          · rename_i hnil
            rw [hnil] at hmem
            cases hmem
          · have h := allP_mem h i hmem
            obtain ⟨o', ho', h⟩ := optP_inv h
            rw [ho] at ho'
            cases ho'
            have hlook := g.look hok ho hd
            unfold Go.wpOp
            have ho2 : ops.toArray[i]? = some o := by simpa using ho
            simp only [ho2]
            rw [wanted_same hlook]
            rcases gP_inv g.rel h with ⟨hw, ov', hr', h⟩ | ⟨hw, ov', hr', h⟩
            · rw [if_pos hw]
              refine .inl (wp_swap (av := av) (X := X) (exec_same (okG_at hok ho).1 hlook) (by rw [g.asz, g.rel.2.1]) (fun ch w' hx => hX a ch w' ⟨g.adef, g.asz, fun d v h => by cases h⟩ hx) ?_)
              refine evEff_sound hc hr' (fun v w' hp => ?_) (fun ch w' hx => ⟨ch, rfl, hx⟩) h
              rw [put_defers, put_slot (by rw [g.asz, g.rel.2.1])]
              refine ⟨rfl, ?_⟩
              obtain ⟨hp, hre⟩ := recheck_inv hc hr' (H := w.heap) hp
              obtain ⟨ov2, hr2, h2⟩ := putP_inv hr' hp
              have g' : GInv c n ops set sure ov' av a L w := { g with rel := hr' }
              refine ihf _ _ _ _ _ _ _ _ (g'.step hok hr ho hd hr2 (w' := w') fun j hj hnc oj hoj u hu hs => hre j (List.mem_filter.2 ⟨hj, by simpa using hnc⟩) oj hoj u hu hs) (by omega) h2
            · rw [if_neg (by simp [hw])]
              obtain ⟨ov2, hr2, h2⟩ := putP_inv hr' h
              have g' : GInv c n ops set sure ov' av a L w := { g with rel := hr' }
              exact ihf _ _ _ _ _ _ _ _ (g'.step hok hr ho hd hr2 (w' := w) fun j hj hnc oj hoj u hu hs => hu) (by omega) h2

end Go.Dec
