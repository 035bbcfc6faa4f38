/- Loaded code as one computed statement: operations, regions, branches, blocks, loops; and that a call does what it says. Conditions: none; every theorem is over any program. -/
import Derived.Test.YthgmebhkbbehmaaDecE
import Derived.RangeFuncRecord
namespace Go.Dec
set_option linter.unusedVariables false
set_option linter.unusedSimpArgs false

/-! ### 16. Operations that write, make memory or call -/
def callP (P : Program) (g : Nat) (args : Array Value) (w : World) (N : Value → World → Prop) (X : List PanicEntry → World → Prop) : Prop :=
  Calls P g args w fun e w' => match e with | .returned v => N v w' | .panicked ch => X ch w' | .outgrown => False
theorem callP.mono {P : Program} {g : Nat} {args : Array Value} {w : World} {N : Value → World → Prop} {X : List PanicEntry → World → Prop} {R : Ending → World → Prop}
    (h : Calls P g args w R) (hr : ∀ e w', R e w' → match e with | .returned v => N v w' | .panicked ch => X ch w' | .outgrown => False) : callP P g args w N X := h.mono hr
/-- The usual way: the callee returns. -/
theorem callP.ret {P : Program} {g : Nat} {args : Array Value} {w : World} {N : Value → World → Prop} {X : List PanicEntry → World → Prop} {S : Value → World → Prop}
    (h : Calls P g args w fun e w' => ∃ v, e = .returned v ∧ S v w') (hr : ∀ v w', S v w' → N v w') : callP P g args w N X :=
  h.mono fun e w' ⟨v, he, hs⟩ => by subst he; exact hr v w' hs

/-- a call of a function without a body, whose run is known -/
def extP (P : Program) (g : Nat) (args : Array Value) (w : World) (N : Value → World → Prop) : Prop := ∃ v w', (callFunc g args).run P w = .ok (.value v) w' ∧ N v w'

def evEff (c : Cx) (o : Oper) (ov : Ov) (w : World) (N : Value → World → Prop) (X : List PanicEntry → World → Prop) : Prop :=
  match o.op with
  | .alloc e => optP (tget c.tb e) fun i => newP w i.zero.toArray e fun b w' => N (.pointer (some ⟨b, 0, none⟩)) w'
  | .box e x => opv ov x fun v => newP w v.cells e fun b w' => N (.pointer (some ⟨b, 0, none⟩)) w'
  | .store t a x => opv ov a fun a => opv ov x fun v => dP a fun p => optP p fun a => stP c t a v w fun w' => N undef w'
  | .buildSlice t len parts => opps ov parts.toList fun ps => bsP c t len ps w N
  | .makeSlice t l m => opv ov l fun l => opv ov m fun m => mkP c t l m w N
  | .convert s d x => optP (tget c.tb d) fun j => (match j.desc with
    | .slice e => optP (tget c.tb s) fun i => optP (tget c.tb e) fun ei => (match i.desc, ei.desc with
      | .string, .int .u8 => opv ov x fun x => dStr x fun x => sbP w e x fun b cap w' => N (.slice (some ⟨b, 0, none⟩) x.size cap) w'
      | .slice _, .int .u8 => chk (Nat.beq s d) (opv ov x fun x => dS x fun a n m => optP a fun a => markP w a fun w' => N (.slice (some a) n m) w')
      | _, _ => False)
    | _ => evRead c o ov w fun v => N v w)
  | .call cl => (match cl.callee with
    | .value f => opv ov f fun f => opvs ov cl.args.toList fun xs => (match f with
      | .func (.func g) fi ca => cond (c.fns.contains g) (callP c.P g (fi.toList ++ xs ++ ca.toList).toArray w (fun v w' => optP (tget c.tb o.type) fun i => dTy i.desc v fun v => N v w') X) (extP c.P g (fi.toList ++ xs ++ ca.toList).toArray w fun v w' => optP (tget c.tb o.type) fun i => dTy i.desc v fun v => N v w')
      | _ => False)
    | .builtin .append => opvs ov cl.args.toList fun xs => (match xs with
      | [x, y] => optP cl.argTypes[0]? fun t => optP cl.argTypes[1]? fun t1 => optP (tget c.tb t) fun i => optP (tget c.tb t1) fun i1 => (match i.desc with
        | .slice e => optP (tget c.tb e) fun ei => dS x fun a n cap => (match i1.desc with
          | .slice _ => dS y fun b m _ => appP w a n cap m (CellsO w b) e ei.size ei.bytes ei.zero.toArray fun a' c' w' => N (.slice a' (n + m) c') w'
          | .string => dStr y fun s => chk (decide (ei.size = 1)) (appP w a n cap s.size (fun xs => xs = byteVals s) e ei.size ei.bytes ei.zero.toArray fun a' c' w' => N (.slice a' (n + s.size) c') w')
          | .int _ => (match y with
            | .int _ m => chk (decide (0 ≤ m)) (appzP w a n cap m.toNat e ei.size ei.bytes ei.zero.toArray fun a' c' w' => N (.slice a' (n + m.toNat) c') w')
            | _ => False)
          | _ => False)
        | _ => False)
      | _ => False)
    | .builtin .copy => opvs ov cl.args.toList fun xs => (match xs with
      | [x, y] => optP cl.argTypes[0]? fun t => optP (tget c.tb t) fun i => (match i.desc with
        | .slice e => optP (tget c.tb e) fun ei => dS x fun a n _ => dS y fun b m _ => copyP w a n b m ei.size fun w' => N (.int .i64 ((Nat.min m n : Nat) : Int)) w'
        | _ => False)
      | _ => False)
    | .builtin .panic => opvs ov cl.args.toList fun xs => (match xs with
      | [.iface t v] => X [{ v := .iface t v, recovered := false }] w
      | _ => False)
    | _ => evRead c o ov w fun v => N v w)
  | .panic x => opv ov x fun x => (match x with
    | .iface t v => X [{ v := .iface t v, recovered := false }] w
    | _ => False)
  | _ => evRead c o ov w fun v => N v w

theorem Yields.wp {c : Cx} {o : Oper} {a : Act} {w : World} {v : Value} {K : Act → World → Prop} {Q : Exit → Act → World → Prop} (h : Yields c o a w.heap v) (hK : K (a.put o.dst v) w) : o.wp c.P a w K Q := by
  unfold Oper.wp
  rw [h w rfl]
  exact hK
theorem wp_of_v {c : Cx} {o : Oper} {a : Act} {w w' : World} {m : Sem Value} {v : Value} {K : Act → World → Prop} {Q : Exit → Act → World → Prop}
    (he : execOp a.eval o = (do pure (Next.value (← m)))) (h : m.run c.P w = .ok v w') (hK : K (a.put o.dst v) w') : o.wp c.P a w K Q := by
  unfold Oper.wp
  rw [he, Sem.run_bind, h]
  exact hK
theorem run_callFunc {P : Program} {g : Nat} {fn : Func} {args : Array Value} {w : World} (h : P.funcs[g]? = some fn) (hn : (fn.name == "runtime.NumGoroutine") = false) (hb : fn.body.isNone = false) :
    (callFunc g args).run P w = .ok (.enter g args) w := by
  unfold callFunc
  simp only [Sem.run_bind, program, Sem.run, Sem.run_pure', Result.andThen_ok, h, hn, hb]
  simp

set_option maxHeartbeats 2000000 in
theorem evEff_sound {c : Cx} (hc : CxOk c) {n : Nat} {o : Oper} {a : Act} {ov : Ov} (hr : Rel n a ov) {w : World} {N : Value → World → Prop} {X : List PanicEntry → World → Prop}
    {K : Act → World → Prop} {Q : Exit → Act → World → Prop} (hN : ∀ v w', N v w' → K (a.put o.dst v) w') (hX : ∀ ch w', X ch w' → Q (.panic ch) a w')
    (h : evEff c o ov w N X) : o.wp c.P a w K Q := by
  have hread : evRead c o ov w (fun v => N v w) → o.wp c.P a w K Q := fun h => by
    obtain ⟨v, hv, h⟩ := evRead_sound hc hr h
    exact hv.wp (hN _ _ h)
  unfold evEff at h
  split at h <;> first | exact hread h | (rename_i ho)
  · rename_i e
    obtain ⟨i, hi, h⟩ := optP_inv h
    obtain ⟨z, hz, hzc⟩ := (hc.ti hi).gives_zero (H := w.heap)
    refine wp_of_v (m := Instr.alloc e true (.tuple #[])) (v := .pointer (some ⟨w.heap.size, 0, none⟩)) (w' := w.alloc (.cells z.cells e)) (by simp [execOp, ho]) ?_ (hN _ _ ?_)
    · have := hz w rfl
      simp [Instr.alloc, this, newVar, newRow]
    · rw [hzc]
      exact h _ _ rfl rfl
  · rename_i e x
    have h := opv_inv hr h
    refine wp_of_v (m := Instr.box e (a.eval x)) (v := .pointer (some ⟨w.heap.size, 0, none⟩)) (w' := w.alloc (.cells (a.eval x).cells e)) (by simp [execOp, ho]) ?_ (hN _ _ (h _ _ rfl rfl))
    simp [Instr.box, newVar, newRow]
  · rename_i t p x
    obtain ⟨q, hq, h⟩ := dP_inv (opv_inv hr (opv_inv hr h))
    obtain ⟨b, rfl, h2⟩ := optP_inv h
    obtain ⟨w', hrun, h3⟩ := stP_sound hc h2
    unfold Oper.wp execOp
    simp only [ho, hq, Sem.run_bind, hrun, Result.andThen_ok]
    exact hN _ _ h3
  · rename_i t len parts
    have h := opps_inv hr h
    have hps : (parts.map fun (i, x) => (i, a.eval x)).toList = parts.toList.map fun (i, x) => (i, a.eval x) := by simp
    rw [← hps] at h
    obtain ⟨v, w', hrun, h2⟩ := bsP_sound hc h
    exact wp_of_v (m := Instr.buildSlice t len (parts.map fun (i, x) => (i, a.eval x))) (by simp [execOp, ho]) hrun (hN _ _ h2)
  · rename_i t l m
    obtain ⟨v, w', hrun, h2⟩ := mkP_sound hc (opv_inv hr (opv_inv hr h))
    exact wp_of_v (m := Instr.makeSlice t (a.eval l) (a.eval m)) (by simp [execOp, ho]) hrun (hN _ _ h2)
  · rename_i s d x
    obtain ⟨j, hj, h⟩ := optP_inv h
    split at h
    · rename_i e hd
      obtain ⟨i, hi, h⟩ := optP_inv h
      obtain ⟨ei, hei, h⟩ := optP_inv h
      split at h
      · rename_i hsd hed
        obtain ⟨st, hst, h⟩ := dStr_inv (opv_inv hr h)
        have u1 : c.P.underlying d = some (.slice e) := by rw [(hc.ti hj).1, hd]
        have u2 : c.P.underlying e = some (.int .u8) := by rw [(hc.ti hei).1, hed]
        have u3 : c.P.underlying s = some .string := by rw [(hc.ti hi).1, hsd]
        obtain ⟨b, cp, w', hrun, h2⟩ := sbP_sound (ei := ei) hc u1 u2 u3 h
        refine wp_of_v (m := convert s d (a.eval x)) (by simp [execOp, ho]) ?_ (hN _ _ h2)
        rw [hst]
        exact hrun
      · rename_i e2 hsd hed
        obtain ⟨hs, h3⟩ := chk_inv h
        have h4 := opv_inv hr h3
        clear h3 h
        obtain rfl := Nat.eq_of_beq_eq_true hs
        obtain ⟨p, k, m, hx, h⟩ := dS_inv h4
        obtain ⟨p, rfl, h⟩ := optP_inv h
        have u1 : c.P.underlying s = some (.slice e) := by rw [(hc.ti hj).1, hd]
        have u2 : c.P.underlying e = some (.int .u8) := by rw [(hc.ti hei).1, hed]
        obtain ⟨w', hrun, h2⟩ := markP_sound (n := k) (m := m) u1 u2 h
        refine wp_of_v (m := convert s s (a.eval x)) (by simp [execOp, ho]) ?_ (hN _ _ h2)
        rw [hx]
        exact hrun
      · exact h.elim
    · exact hread h
  · rename_i cl
    split at h
    · rename_i f hcal
      have h := opvs_inv hr (opv_inv hr h)
      split at h
      · rename_i g fi ca hf
        have eargs : (fi.toList ++ cl.args.toList.map a.eval ++ ca.toList).toArray = fi ++ cl.args.map a.eval ++ ca := by
          apply Array.ext'
          simp
        rw [eargs] at h
        cases hg : c.fns.contains g with
        | false =>
          rw [hg] at h
          obtain ⟨v, w', hrun, h⟩ := h
          obtain ⟨i, hi, he⟩ := optP_inv h
          unfold Oper.wp execOp
          simp only [ho]
          unfold resolve
          simp only [hcal, hf, Deferred.ofValue, pure_bind, invoke, Sem.run_bind, Sem.run_pure, Result.andThen_ok]
          rw [hrun]
          exact hN _ _ (dTy_inv he)
        | true =>
        rw [hg] at h
        obtain ⟨fn, hfn, hname, hbody⟩ := hc.fn g (by simpa using hg)
        unfold Oper.wp execOp
        simp only [ho]
        unfold resolve
        simp only [hcal, hf, Deferred.ofValue, pure_bind, invoke, Sem.run_bind, Sem.run_pure, Result.andThen_ok]
        rw [run_callFunc hfn hname hbody]
        refine Calls.mono h fun e w' he => ?_
        cases e with
        | returned v =>
          obtain ⟨i, hi, he⟩ := optP_inv he
          exact hN _ _ (dTy_inv he)
        | panicked ch => exact hX _ _ he
        | outgrown => exact he.elim
      · exact h.elim
    · rename_i hcal
      have h := opvs_inv hr h
      split at h
      · rename_i x y hxs
        have harr : cl.args.map a.eval = #[x, y] := by
          apply Array.ext'
          simpa using hxs
        obtain ⟨t, ht, h⟩ := optP_inv h
        obtain ⟨t1, ht1, h⟩ := optP_inv h
        obtain ⟨i, hi, h⟩ := optP_inv h
        obtain ⟨i1, hi1, h⟩ := optP_inv h
        have key : ∀ {v : Value} {w' : World}, (Builtin.append_ cl.argTypes o.type #[x, y]).run c.P w = .ok v w' → N v w' → o.wp c.P a w K Q := fun {v w'} hrun hn => by
          unfold Oper.wp execOp
          simp only [ho]
          unfold resolve
          simp only [hcal, pure_bind, invoke, builtin, harr, Sem.run_bind, hrun, Result.andThen_ok]
          exact hN _ _ hn
        split at h
        · rename_i e hd
          obtain ⟨ei, hei, h⟩ := optP_inv h
          have u : c.P.underlying t = some (.slice e) := by rw [(hc.ti hi).1, hd]
          obtain ⟨b, m, cap, hx, h⟩ := dS_inv h
          rw [hx] at key
          split at h
          · rename_i e' hd1
            have u1 : c.P.underlying t1 = some (.slice e') := by rw [(hc.ti hi1).1, hd1]
            obtain ⟨b', m', cap', hy, h⟩ := dS_inv h
            rw [hy] at key
            obtain ⟨b2, c2, w', hrun, h2⟩ := appP_core (ty := o.type) hc (hc.ti hei) h ht u (x := .slice b' m' cap') (fun xs hxs hl =>
              ⟨⟨t1, _, ht1, u1, .inr ⟨e', rfl⟩⟩, fun w' => by simp [Builtin.lenOf], fun w' hw => run_firstCells_O (w := w) hw hxs hl⟩)
            exact key hrun h2
          · rename_i hd1
            have u1 : c.P.underlying t1 = some .string := by rw [(hc.ti hi1).1, hd1]
            obtain ⟨s, hy, h⟩ := dStr_inv h
            rw [hy] at key
            obtain ⟨h1, h⟩ := chk_inv h
            have h1 := of_decide_eq_true h1
            obtain ⟨b2, c2, w', hrun, h2⟩ := appP_core (ty := o.type) hc (hc.ti hei) h ht u (x := .string s) (fun xs hxs hl =>
              ⟨⟨t1, _, ht1, u1, .inl rfl⟩, fun w' => by simp [Builtin.lenOf], fun w' hw => by
                subst hxs
                have hs : s.data.size = s.size := rfl
                have e1 : (s.extract 0 s.size).data = s.data := by
                  rw [ByteArray.data_extract, ← hs, Array.extract_size]
                simp only [Builtin.firstCells, Sem.run_pure, e1]
                congr 1
                apply Array.ext'
                simp [byteVals]⟩)
            exact key hrun h2
          · rename_i k1 hd1
            have u1 : c.P.underlying t1 = some (.int k1) := by rw [(hc.ti hi1).1, hd1]
            split at h
            · obtain ⟨h0, h⟩ := chk_inv h
              have h0 := of_decide_eq_true h0
              obtain ⟨b2, c2, w', hrun, h2⟩ := appzP_core (ty := o.type) hc (hc.ti hei) h ht u ht1 u1
              rw [Int.toNat_of_nonneg h0] at hrun
              exact key (hrun _) h2
            · exact h.elim
          · exact h.elim
        · exact h.elim
      · exact h.elim
    · rename_i hcal
      have h := opvs_inv hr h
      split at h
      · rename_i x y hxs
        have harr : cl.args.map a.eval = #[x, y] := by
          apply Array.ext'
          simpa using hxs
        obtain ⟨t, ht, h⟩ := optP_inv h
        obtain ⟨i, hi, h⟩ := optP_inv h
        split at h
        · rename_i e hd
          obtain ⟨ei, hei, h⟩ := optP_inv h
          have u : c.P.underlying t = some (.slice e) := by rw [(hc.ti hi).1, hd]
          obtain ⟨b, m, cap, hx, h⟩ := dS_inv h
          obtain ⟨b', m', cap', hy, h⟩ := dS_inv h
          obtain ⟨w', hrun, h2⟩ := copyP_sound (dc := cap) (sc := cap') (ty := o.type) hc (hc.ti hei) h ht u
          unfold Oper.wp execOp
          simp only [ho]
          unfold resolve
          simp only [hcal, pure_bind, invoke, builtin, harr, hx, hy, Sem.run_bind, hrun, Result.andThen_ok]
          exact hN _ _ h2
        · exact h.elim
      · exact h.elim
    · rename_i hcal
      have h := opvs_inv hr h
      split at h
      · rename_i t v hxs
        have harr : cl.args.map a.eval = #[.iface t v] := by
          apply Array.ext'
          simpa using hxs
        unfold Oper.wp execOp
        simp only [ho]
        unfold resolve
        simp only [hcal, pure_bind, invoke, builtin, harr]
        simp [Instr.panic, goPanic, Oper.upon]
        exact hX _ _ h
      · exact h.elim
    · exact hread h
  · rename_i x
    have h := opv_inv hr h
    split at h
    · rename_i t v hx
      unfold Oper.wp execOp
      simp [ho, hx, Instr.panic, goPanic, Oper.upon]
      exact hX _ _ h
    · exact h.elim
/-! #### maps that are made, and counted -/
def newMP (w : World) (K : Nat → World → Prop) : Prop := ∀ b w', b = w.heap.size → w' = w.alloc (.map #[] 0) → K b w'
def mlenP (w : World) (r : Option Nat) (K : Int → Prop) : Prop := match r with
  | none => K 0
  | some b => ∃ es n, w.heap[b]? = some (.map es n) ∧ K (es.size : Int)
def mapLen (c : Cx) (cl : Call) : Bool := match cl.argTypes[0]? with
  | some t => (match tget c.tb t with
    | some i => (match i.desc with | .map _ _ => true | _ => false)
    | none => false)
  | none => false
/-! #### entries of maps with complex keys -/
def fApart (r m : Nat) (e : MapEntry) : Prop := ∃ r' m', e.key = .complex .f64 r' m' ∧ (fCmp .eql r r' && fCmp .eql m m') = false
def zeroIs (P : Program) (t : TypeId) (z : Value) : Prop := (P.info? t).bind (·.zero) = some z
def mentP (P : Program) (w : World) (b r m : Nat) (t : TypeId) (z : Value) (K : Value → Int → World → Prop) : Prop :=
  zeroIs P t z ∧ ∃ es clock, w.heap[b]? = some (.map es clock) ∧
    (((∀ e ∈ es.toList, fApart r m e) ∧ ∀ w', w' = w.putObj b (.map (es.push ⟨.complex .f64 r m, z, clock⟩) (clock + 1)) → K z (clock : Int) w') ∨
    (∃ i e, es.toList[i]? = some e ∧ e.key = .complex .f64 r m ∧ (fCmp .eql r r && fCmp .eql m m) = true ∧ (∀ e' ∈ es.toList.take i, fApart r m e') ∧ K e.val (e.born : Int) w))
def mstoP (w : World) (b : Nat) (st : Int) (v : Value) (K : World → Prop) : Prop :=
  ∃ es clock i, w.heap[b]? = some (.map es clock) ∧ es.findIdx? (fun e => (e.born : Int) == st) = some i ∧ ∀ w', w' = w.putObj b (.map (es.modify i fun e => { e with val := v }) clock) → K w'

theorem run_find_apart {P : Program} {w : World} {kt : TypeId} {k : FloatKind} {r m : Nat} (hk : P.underlying kt = some (.complex k)) : ∀ (es : List MapEntry) (i : Nat), (∀ e ∈ es, fApart r m e) →
    (Instr.findAsking kt (.complex .f64 r m) es i).run P w = .ok none w
  | [], i, _ => by simp [Instr.findAsking]
  | e :: es, i, h => by
    obtain ⟨r', m', he, hf⟩ := h e (List.mem_cons_self ..)
    have ih := run_find_apart (w := w) hk es (i + 1) fun e he => h e (List.mem_cons_of_mem _ he)
    have hf2 : (Op.floatEq .f64 r r' && Op.floatEq .f64 m m') = false := hf
    have hq : (Op.equal kt (.complex .f64 r m) e.key).run P w = .ok false w := by
      rw [he]
      unfold Op.equal Op.maxDepth Op.equalIn
      simp only [Sem.run_bind, run_underlying hk, Result.andThen_ok, if_true, Sem.run_pure, hf2]
    rw [Instr.findAsking, Sem.run_bind, hq]
    exact ih
theorem run_find_at {P : Program} {w : World} {kt : TypeId} {k : FloatKind} {r m : Nat} (hk : P.underlying kt = some (.complex k)) (hs : (fCmp .eql r r && fCmp .eql m m) = true) : ∀ (es : List MapEntry) (n i : Nat) (e : MapEntry), es[i]? = some e →
    e.key = .complex .f64 r m → (∀ e' ∈ es.take i, fApart r m e') → (Instr.findAsking kt (.complex .f64 r m) es n).run P w = .ok (some (n + i, e.val)) w
  | [], n, i, e, h, _, _ => by simp at h
  | a :: es, n, 0, e, h, he, _ => by
    obtain rfl : a = e := by simpa using h
    have hf2 : (Op.floatEq .f64 r r && Op.floatEq .f64 m m) = true := hs
    have hq : (Op.equal kt (.complex .f64 r m) a.key).run P w = .ok true w := by
      rw [he]
      unfold Op.equal Op.maxDepth Op.equalIn
      simp only [Sem.run_bind, run_underlying hk, Result.andThen_ok, if_true, Sem.run_pure, hf2]
    rw [Instr.findAsking, Sem.run_bind, hq]
    rfl
  | a :: es, n, i + 1, e, h, he, ha => by
    obtain ⟨r', m', hae, hf⟩ := ha a (by simp)
    have ih := run_find_at (w := w) hk hs es (n + 1) i e (by simpa using h) he fun e' he' => ha e' (by simp [he'])
    have hf2 : (Op.floatEq .f64 r r' && Op.floatEq .f64 m m') = false := hf
    have hq : (Op.equal kt (.complex .f64 r m) a.key).run P w = .ok false w := by
      rw [hae]
      unfold Op.equal Op.maxDepth Op.equalIn
      simp only [Sem.run_bind, run_underlying hk, Result.andThen_ok, if_true, Sem.run_pure, hf2]
    rw [Instr.findAsking, Sem.run_bind, hq]
    simp only [Result.andThen]
    have e1 : n + (i + 1) = n + 1 + i := by omega
    rw [e1]
    simpa using ih
theorem findNow_cpx {k : FloatKind} {r m : Nat} : ∀ (es : List MapEntry), Instr.findNow (.complex k) (.complex .f64 r m) es 0 = if es = [] then some none else none
  | [] => rfl
  | e :: es => by simp [Instr.findNow, Instr.sameNow]
theorem run_findKey_cpx {P : Program} {w : World} {kt : TypeId} {k : FloatKind} {r m : Nat} (hk : P.underlying kt = some (.complex k)) (es : List MapEntry) :
    (Instr.findKey kt (.complex .f64 r m) es).run P w = (Instr.findAsking kt (.complex .f64 r m) es).run P w := by
  unfold Instr.findKey
  rw [Sem.run_bind, run_underlying hk, Result.andThen_ok, findNow_cpx]
  cases es with
  | nil => simp [Instr.findAsking]
  | cons e es => simp
theorem run_checkKey_cpx {P : Program} {w : World} {kt : TypeId} {k : FloatKind} {r m : Nat} (hk : P.underlying kt = some (.complex k)) (b : Bool) (n : Nat) : (Instr.checkKey b (n + 1) kt (.complex .f64 r m)).run P w = .ok () w := by
  unfold Instr.checkKey
  simp [Sem.run_bind, run_underlying hk, Result.andThen]
theorem modify_at {α : Type} (f : α → α) : ∀ (l : List α) (i : Nat) (a : α), l[i]? = some a → f a = a → l.modify i f = l
  | [], _, _, h, _ => by simp at h
  | b :: l, 0, a, h, hf => by
    obtain rfl : b = a := by simpa using h
    simp [hf]
  | b :: l, i + 1, a, h, hf => by
    rw [List.modify_succ_cons, modify_at f l i a (by simpa using h) hf]
theorem putObj_self {w : World} {b : Nat} {o : Obj} (h : w.heap[b]? = some o) : w.putObj b o = w := by
  have : w.heap.setIfInBounds b o = w.heap := by
    apply Array.ext'
    rw [Array.toList_setIfInBounds]
    apply List.ext_getElem?
    intro j
    rw [List.getElem?_set]
    split
    · rename_i e
      subst e
      have hl : b < w.heap.toList.length := by
        rw [Array.length_toList]
        exact (Array.getElem?_eq_some_iff.mp h).1
      rw [if_pos hl, Array.getElem?_toList, h]
    · rfl
  unfold World.putObj
  rw [this]

def evEffM (c : Cx) (o : Oper) (ov : Ov) (w : World) (N : Value → World → Prop) (X : List PanicEntry → World → Prop) : Prop :=
  match o.op with
  | .makeMap _ none => newMP w fun b w' => N (.map (some b)) w'
  | .mapEntry t m k => optP (tget c.tb t) fun i => (match i.desc with
    | .map kt e => optP (tget c.tb kt) fun ki => optP (tget c.tb e) fun ei => (match ki.desc, ei.desc with
      | .complex _, .slice _ => opv ov m fun m => dM m fun b => optP b fun b => opv ov k fun k => dC k fun x y => mentP c.P w b x y e (.slice none 0 0) fun v st w' => dS v fun p n q => N (.tuple #[.slice p n q, .int .i64 st]) w'
      | _, _ => False)
    | _ => False)
  | .entryStore _ m st v => opv ov m fun m => dM m fun b => optP b fun b => opv ov st fun st => dI .i64 st fun st => opv ov v fun v => mstoP w b st v fun w' => N undef w'
  | .call cl => (match cl.callee with
    | .builtin .len => cond (mapLen c cl) (opvs ov cl.args.toList fun xs => (match xs with
      | [x] => dM x fun r => mlenP w r fun n => N (.int .i64 n) w
      | _ => False)) (evEff c o ov w N X)
    | _ => evEff c o ov w N X)
  | _ => evEff c o ov w N X
set_option maxHeartbeats 1000000 in
theorem evEffM_sound {c : Cx} (hc : CxOk c) {n : Nat} {o : Oper} {a : Act} {ov : Ov} (hr : Rel n a ov) {w : World} {N : Value → World → Prop} {X : List PanicEntry → World → Prop}
    {K : Act → World → Prop} {Q : Exit → Act → World → Prop} (hN : ∀ v w', N v w' → K (a.put o.dst v) w') (hX : ∀ ch w', X ch w' → Q (.panic ch) a w')
    (h : evEffM c o ov w N X) : o.wp c.P a w K Q := by
  unfold evEffM at h
  split at h
  · rename_i t ho
    refine wp_of_v (m := Instr.makeMap t none) (v := .map (some w.heap.size)) (w' := w.alloc (.map #[] 0)) (by simp [execOp, ho]) ?_ (hN _ _ (h _ _ rfl rfl))
    simp [Instr.makeMap]
  · rename_i t m k ho
    obtain ⟨i, hi, h⟩ := optP_inv h
    split at h
    · rename_i kt e hd
      obtain ⟨ki, hki, h⟩ := optP_inv h
      obtain ⟨ei, hei, h⟩ := optP_inv h
      split at h
      · rename_i kk ee hkd hed
        obtain ⟨b, hm, h⟩ := dM_inv (opv_inv hr h)
        obtain ⟨b, rfl, h⟩ := optP_inv h
        obtain ⟨x, y, hk, hz, es, clock, hb, h⟩ := dC_inv (opv_inv hr h)
        have u1 : c.P.underlying t = some (.map kt e) := by rw [(hc.ti hi).1, hd]
        have u2 : c.P.underlying kt = some (.complex kk) := by rw [(hc.ti hki).1, hkd]
        have hg : (getObj b).run c.P w = .ok (.map es clock) w := by simp [getObj, Sem.run, hb]
        have hset : ∀ o : Obj, (setObj b o).run c.P w = .ok () (w.putObj b o) := fun o => by simp [setObj, Sem.run, hb, World.putObj]
        have hzero : (zeroValue e).run c.P w = .ok (.slice none 0 0) w := by
          unfold zeroIs at hz
          cases hq : c.P.info? e with
          | none => simp [hq] at hz
          | some x =>
            have : x.zero = some (.slice none 0 0) := by simpa [hq] using hz
            simp [zeroValue, typeInfo, hq, this]
        rcases h with ⟨ha, h⟩ | ⟨i, en, hat, hkey, hself, hap, h⟩
        · have h := h _ rfl
          refine wp_of_v (m := Instr.mapEntry t (a.eval m) (a.eval k)) (v := .tuple #[.slice none 0 0, .int .i64 clock]) (by simp [execOp, ho]) ?_ (hN _ _ h)
          rw [hm, hk]
          unfold Instr.mapEntry
          simp only [Sem.run_bind, run_underlying u1, Result.andThen_ok, hg, run_checkKey_cpx u2, run_findKey_cpx u2, run_find_apart u2 _ _ ha, hzero, hset]
          rfl
        · obtain ⟨p, q, cc, hv, h⟩ := dS_inv h
          refine wp_of_v (m := Instr.mapEntry t (a.eval m) (a.eval k)) (v := .tuple #[.slice p q cc, .int .i64 en.born]) (w' := w) (by simp [execOp, ho]) ?_ (hN _ _ h)
          rw [hm, hk]
          unfold Instr.mapEntry
          have hat2 : es[i]? = some en := by rw [← Array.getElem?_toList]; exact hat
          have hmod : es.modify i (fun e => { e with key := Value.complex .f64 x y }) = es := by
            apply Array.ext'
            rw [Array.toList_modify]
            exact modify_at _ _ _ en hat (by rw [← hkey])
          have hstay : (Instr.keyThatStays (.complex .f64 x y) (.complex .f64 x y)).run c.P w = .ok (.complex .f64 x y) w := by
            simp [Instr.keyThatStays, Instr.sameBits]
          simp only [Sem.run_bind, run_underlying u1, Result.andThen_ok, hg, run_checkKey_cpx u2, run_findKey_cpx u2, run_find_at u2 hself _ _ i en hat hkey hap, Nat.zero_add, hat2, Option.map_some, Option.getD_some, hkey, hstay, hset, hmod, putObj_self hb, hv]
          rfl
      · exact h.elim
    · exact h.elim
  · rename_i t m st v ho
    obtain ⟨b, hm, h⟩ := dM_inv (opv_inv hr h)
    obtain ⟨b, rfl, h⟩ := optP_inv h
    obtain ⟨st', hst, h⟩ := dI_inv (opv_inv hr h)
    obtain ⟨es, clock, i, hb, hf, h⟩ := opv_inv hr h
    have h := h _ rfl
    have hg : (getObj b).run c.P w = .ok (.map es clock) w := by simp [getObj, Sem.run, hb]
    have hset : ∀ o : Obj, (setObj b o).run c.P w = .ok () (w.putObj b o) := fun o => by simp [setObj, Sem.run, hb, World.putObj]
    unfold Oper.wp execOp
    have hrun : (Instr.entryStore t (a.eval m) (a.eval st) (a.eval v)).run c.P w = .ok () (w.putObj b (.map (es.modify i fun e => { e with val := a.eval v }) clock)) := by
      rw [hm, hst]
      unfold Instr.entryStore
      simp only [Sem.run_bind, Result.andThen_ok, hg, asInt, asIntOf, Sem.run_pure, hf, hset]
    simp only [ho, Sem.run_bind, hrun, Result.andThen_ok]
    exact hN _ _ h
  · rename_i cl ho
    split at h
    · rename_i hb
      cases hm : mapLen c cl with
      | false =>
        rw [hm] at h
        exact evEff_sound hc hr hN hX h
      | true =>
        rw [hm] at h
        have h := opvs_inv hr h
        split at h
        · rename_i x hx
          obtain ⟨r, rfl, h⟩ := dM_inv h
          unfold mapLen at hm
          split at hm
          · rename_i t ht
            split at hm
            · rename_i i hi
              split at hm
              · rename_i k e hd
                have hu := (hc.ti hi).gives_u w rfl
                rw [hd] at hu
                have e1 : cl.args.map a.eval = #[.map r] := by
                  have : (cl.args.map a.eval).toList = [.map r] := by rw [Array.toList_map]; exact hx
                  exact Array.ext' this
                have fin : ∀ n : Int, (Builtin.len_ cl.argTypes o.type #[.map r]).run c.P w = .ok (.int .i64 n) w → N (.int .i64 n) w → o.wp c.P a w K Q := fun n hrun hn => by
                  unfold Oper.wp
                  have : (execOp a.eval o).run c.P w = .ok (.value (.int .i64 n)) w := by
                    unfold execOp
                    simp only [ho]
                    unfold resolve
                    rw [hb]
                    simp only [pure_bind, invoke]
                    rw [e1]
                    show (do pure (Next.value (← Builtin.len_ cl.argTypes o.type #[.map r]))).run c.P w = _
                    rw [Sem.run_bind, hrun]
                    rfl
                  rw [this]
                  exact hN _ _ hn
                cases r with
                | none => exact fin 0 (by simp [Builtin.len_, ht, hu, goInt]) h
                | some b =>
                  obtain ⟨es, m, he, h⟩ := h
                  have hg : (getObj b).run c.P w = .ok (.map es m) w := by simp [getObj, Sem.run, he]
                  exact fin _ (by simp [Builtin.len_, ht, hu, goInt, hg, Result.andThen]) h
              · cases hm
            · cases hm
          · cases hm
        · exact h.elim
    · exact evEff_sound hc hr hN hX h
  · exact evEff_sound hc hr hN hX h
end Go.Dec
