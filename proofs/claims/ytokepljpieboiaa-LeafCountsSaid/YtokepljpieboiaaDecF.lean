/- Loaded code as one computed statement: operations, regions, branches, blocks, loops; and that a call does what it says. Conditions: none; every theorem is over any program. -/
import Derived.Test.YtokepljpieboiaaDecE
namespace Go.Dec
set_option linter.unusedVariables false
set_option linter.unusedSimpArgs false

/-! ### 16. Operations that write, make memory or call -/
def callP (P : Program) (g : Nat) (args : Array Value) (w : World) (N : Value → World → Prop) (X : List PanicEntry → World → Prop) : Prop :=
  Calls P g args w fun e w' => match e with | .returned v => N v w' | .panicked ch => X ch w' | .outgrown => False
theorem callP.mono {P : Program} {g : Nat} {args : Array Value} {w : World} {N : Value → World → Prop} {X : List PanicEntry → World → Prop} {R : Ending → World → Prop}
    (h : Calls P g args w R) (hr : ∀ e w', R e w' → match e with | .returned v => N v w' | .panicked ch => X ch w' | .outgrown => False) : callP P g args w N X := h.mono hr
/-- The usual way: the callee returns. -/
theorem callP.ret {P : Program} {g : Nat} {args : Array Value} {w : World} {N : Value → World → Prop} {X : List PanicEntry → World → Prop} {S : Value → World → Prop}
    (h : Calls P g args w fun e w' => ∃ v, e = .returned v ∧ S v w') (hr : ∀ v w', S v w' → N v w') : callP P g args w N X :=
  h.mono fun e w' ⟨v, he, hs⟩ => by subst he; exact hr v w' hs

/-- a call of a function without a body, whose run is known -/
def extP (P : Program) (g : Nat) (args : Array Value) (w : World) (N : Value → World → Prop) : Prop := ∃ v w', (callFunc g args).run P w = .ok (.value v) w' ∧ N v w'

def evEff (c : Cx) (o : Oper) (ov : Ov) (w : World) (N : Value → World → Prop) (X : List PanicEntry → World → Prop) : Prop :=
  match o.op with
  | .alloc e => optP (tget c.tb e) fun i => newP w i.zero.toArray e fun b w' => N (.pointer (some ⟨b, 0, none⟩)) w'
  | .box e x => opv ov x fun v => newP w v.cells e fun b w' => N (.pointer (some ⟨b, 0, none⟩)) w'
  | .store t a x => opv ov a fun a => opv ov x fun v => dP a fun p => optP p fun a => stP c t a v w fun w' => N undef w'
  | .buildSlice t len parts => opps ov parts.toList fun ps => bsP c t len ps w N
  | .makeSlice t l m => opv ov l fun l => opv ov m fun m => mkP c t l m w N
  | .convert s d x => optP (tget c.tb d) fun j => (match j.desc with
    | .slice e => optP (tget c.tb s) fun i => optP (tget c.tb e) fun ei => (match i.desc, ei.desc with
      | .string, .int .u8 => opv ov x fun x => dStr x fun x => sbP w e x fun b cap w' => N (.slice (some ⟨b, 0, none⟩) x.size cap) w'
      | .slice _, .int .u8 => chk (Nat.beq s d) (opv ov x fun x => dS x fun a n m => optP a fun a => markP w a fun w' => N (.slice (some a) n m) w')
      | _, _ => False)
    | _ => evRead c o ov w fun v => N v w)
  | .call cl => (match cl.callee with
    | .value f => opv ov f fun f => opvs ov cl.args.toList fun xs => (match f with
      | .func (.func g) fi ca => cond (c.fns.contains g) (callP c.P g (fi.toList ++ xs ++ ca.toList).toArray w (fun v w' => optP (tget c.tb o.type) fun i => dTy i.desc v fun v => N v w') X) (extP c.P g (fi.toList ++ xs ++ ca.toList).toArray w fun v w' => optP (tget c.tb o.type) fun i => dTy i.desc v fun v => N v w')
      | _ => False)
    | .builtin .append => opvs ov cl.args.toList fun xs => (match xs with
      | [x, y] => optP cl.argTypes[0]? fun t => optP cl.argTypes[1]? fun t1 => optP (tget c.tb t) fun i => optP (tget c.tb t1) fun i1 => (match i.desc with
        | .slice e => optP (tget c.tb e) fun ei => dS x fun a n cap => (match i1.desc with
          | .slice _ => dS y fun b m _ => appP w a n cap m (CellsO w b) e ei.size ei.bytes ei.zero.toArray fun a' c' w' => N (.slice a' (n + m) c') w'
          | .string => dStr y fun s => chk (decide (ei.size = 1)) (appP w a n cap s.size (fun xs => xs = byteVals s) e ei.size ei.bytes ei.zero.toArray fun a' c' w' => N (.slice a' (n + s.size) c') w')
          | .int _ => (match y with
            | .int _ m => chk (decide (0 ≤ m)) (appzP w a n cap m.toNat e ei.size ei.bytes ei.zero.toArray fun a' c' w' => N (.slice a' (n + m.toNat) c') w')
            | _ => False)
          | _ => False)
        | _ => False)
      | _ => False)
    | .builtin .copy => opvs ov cl.args.toList fun xs => (match xs with
      | [x, y] => optP cl.argTypes[0]? fun t => optP (tget c.tb t) fun i => (match i.desc with
        | .slice e => optP (tget c.tb e) fun ei => dS x fun a n _ => dS y fun b m _ => copyP w a n b m ei.size fun w' => N (.int .i64 ((Nat.min m n : Nat) : Int)) w'
        | _ => False)
      | _ => False)
    | .builtin .panic => opvs ov cl.args.toList fun xs => (match xs with
      | [.iface t v] => X [{ v := .iface t v, recovered := false }] w
      | _ => False)
    | _ => evRead c o ov w fun v => N v w)
  | .panic x => opv ov x fun x => (match x with
    | .iface t v => X [{ v := .iface t v, recovered := false }] w
    | _ => False)
  | _ => evRead c o ov w fun v => N v w

theorem Yields.wp {c : Cx} {o : Oper} {a : Act} {w : World} {v : Value} {K : Act → World → Prop} {Q : Exit → Act → World → Prop} (h : Yields c o a w.heap v) (hK : K (a.put o.dst v) w) : o.wp c.P a w K Q := by
  unfold Oper.wp
  rw [h w rfl]
  exact hK
theorem wp_of_v {c : Cx} {o : Oper} {a : Act} {w w' : World} {m : Sem Value} {v : Value} {K : Act → World → Prop} {Q : Exit → Act → World → Prop}
    (he : execOp a.eval o = (do pure (Next.value (← m)))) (h : m.run c.P w = .ok v w') (hK : K (a.put o.dst v) w') : o.wp c.P a w K Q := by
  unfold Oper.wp
  rw [he, Sem.run_bind, h]
  exact hK
theorem run_callFunc {P : Program} {g : Nat} {fn : Func} {args : Array Value} {w : World} (h : P.funcs[g]? = some fn) (hn : (fn.name == "runtime.NumGoroutine") = false) (hb : fn.body.isNone = false) :
    (callFunc g args).run P w = .ok (.enter g args) w := by
  unfold callFunc
  simp only [Sem.run_bind, program, Sem.run, Sem.run_pure', Result.andThen_ok, h, hn, hb]
  simp

set_option maxHeartbeats 2000000 in
theorem evEff_sound {c : Cx} (hc : CxOk c) {n : Nat} {o : Oper} {a : Act} {ov : Ov} (hr : Rel n a ov) {w : World} {N : Value → World → Prop} {X : List PanicEntry → World → Prop}
    {K : Act → World → Prop} {Q : Exit → Act → World → Prop} (hN : ∀ v w', N v w' → K (a.put o.dst v) w') (hX : ∀ ch w', X ch w' → Q (.panic ch) a w')
    (h : evEff c o ov w N X) : o.wp c.P a w K Q := by
  have hread : evRead c o ov w (fun v => N v w) → o.wp c.P a w K Q := fun h => by
    obtain ⟨v, hv, h⟩ := evRead_sound hc hr h
    exact hv.wp (hN _ _ h)
  unfold evEff at h
  split at h <;> first | exact hread h | (rename_i ho)
  · rename_i e
    obtain ⟨i, hi, h⟩ := optP_inv h
    obtain ⟨z, hz, hzc⟩ := (hc.ti hi).gives_zero (H := w.heap)
    refine wp_of_v (m := Instr.alloc e true (.tuple #[])) (v := .pointer (some ⟨w.heap.size, 0, none⟩)) (w' := w.alloc (.cells z.cells e)) (by simp [execOp, ho]) ?_ (hN _ _ ?_)
    · have := hz w rfl
      simp [Instr.alloc, this, newVar, newRow]
    · rw [hzc]
      exact h _ _ rfl rfl
  · rename_i e x
    have h := opv_inv hr h
    refine wp_of_v (m := Instr.box e (a.eval x)) (v := .pointer (some ⟨w.heap.size, 0, none⟩)) (w' := w.alloc (.cells (a.eval x).cells e)) (by simp [execOp, ho]) ?_ (hN _ _ (h _ _ rfl rfl))
    simp [Instr.box, newVar, newRow]
  · rename_i t p x
    obtain ⟨q, hq, h⟩ := dP_inv (opv_inv hr (opv_inv hr h))
    obtain ⟨b, rfl, h2⟩ := optP_inv h
    obtain ⟨w', hrun, h3⟩ := stP_sound hc h2
    unfold Oper.wp execOp
    simp only [ho, hq, Sem.run_bind, hrun, Result.andThen_ok]
    exact hN _ _ h3
  · rename_i t len parts
    have h := opps_inv hr h
    have hps : (parts.map fun (i, x) => (i, a.eval x)).toList = parts.toList.map fun (i, x) => (i, a.eval x) := by simp
    rw [← hps] at h
    obtain ⟨v, w', hrun, h2⟩ := bsP_sound hc h
    exact wp_of_v (m := Instr.buildSlice t len (parts.map fun (i, x) => (i, a.eval x))) (by simp [execOp, ho]) hrun (hN _ _ h2)
  · rename_i t l m
    obtain ⟨v, w', hrun, h2⟩ := mkP_sound hc (opv_inv hr (opv_inv hr h))
    exact wp_of_v (m := Instr.makeSlice t (a.eval l) (a.eval m)) (by simp [execOp, ho]) hrun (hN _ _ h2)
  · rename_i s d x
    obtain ⟨j, hj, h⟩ := optP_inv h
    split at h
    · rename_i e hd
      obtain ⟨i, hi, h⟩ := optP_inv h
      obtain ⟨ei, hei, h⟩ := optP_inv h
      split at h
      · rename_i hsd hed
        obtain ⟨st, hst, h⟩ := dStr_inv (opv_inv hr h)
        have u1 : c.P.underlying d = some (.slice e) := by rw [(hc.ti hj).1, hd]
        have u2 : c.P.underlying e = some (.int .u8) := by rw [(hc.ti hei).1, hed]
        have u3 : c.P.underlying s = some .string := by rw [(hc.ti hi).1, hsd]
        obtain ⟨b, cp, w', hrun, h2⟩ := sbP_sound (ei := ei) hc u1 u2 u3 h
        refine wp_of_v (m := convert s d (a.eval x)) (by simp [execOp, ho]) ?_ (hN _ _ h2)
        rw [hst]
        exact hrun
      · rename_i e2 hsd hed
        obtain ⟨hs, h3⟩ := chk_inv h
        have h4 := opv_inv hr h3
        clear h3 h
        obtain rfl := Nat.eq_of_beq_eq_true hs
        obtain ⟨p, k, m, hx, h⟩ := dS_inv h4
        obtain ⟨p, rfl, h⟩ := optP_inv h
        have u1 : c.P.underlying s = some (.slice e) := by rw [(hc.ti hj).1, hd]
        have u2 : c.P.underlying e = some (.int .u8) := by rw [(hc.ti hei).1, hed]
        obtain ⟨w', hrun, h2⟩ := markP_sound (n := k) (m := m) u1 u2 h
        refine wp_of_v (m := convert s s (a.eval x)) (by simp [execOp, ho]) ?_ (hN _ _ h2)
        rw [hx]
        exact hrun
      · exact h.elim
    · exact hread h
  · rename_i cl
    split at h
    · rename_i f hcal
      have h := opvs_inv hr (opv_inv hr h)
      split at h
      · rename_i g fi ca hf
        have eargs : (fi.toList ++ cl.args.toList.map a.eval ++ ca.toList).toArray = fi ++ cl.args.map a.eval ++ ca := by
          apply Array.ext'
          simp
        rw [eargs] at h
        cases hg : c.fns.contains g with
        | false =>
          rw [hg] at h
          obtain ⟨v, w', hrun, h⟩ := h
          obtain ⟨i, hi, he⟩ := optP_inv h
          unfold Oper.wp execOp
          simp only [ho]
          unfold resolve
          simp only [hcal, hf, Deferred.ofValue, pure_bind, invoke, Sem.run_bind, Sem.run_pure, Result.andThen_ok]
          rw [hrun]
          exact hN _ _ (dTy_inv he)
        | true =>
        rw [hg] at h
        obtain ⟨fn, hfn, hname, hbody⟩ := hc.fn g (by simpa using hg)
        unfold Oper.wp execOp
        simp only [ho]
        unfold resolve
        simp only [hcal, hf, Deferred.ofValue, pure_bind, invoke, Sem.run_bind, Sem.run_pure, Result.andThen_ok]
        rw [run_callFunc hfn hname hbody]
        refine Calls.mono h fun e w' he => ?_
        cases e with
        | returned v =>
          obtain ⟨i, hi, he⟩ := optP_inv he
          exact hN _ _ (dTy_inv he)
        | panicked ch => exact hX _ _ he
        | outgrown => exact he.elim
      · exact h.elim
    · rename_i hcal
      have h := opvs_inv hr h
      split at h
      · rename_i x y hxs
        have harr : cl.args.map a.eval = #[x, y] := by
          apply Array.ext'
          simpa using hxs
        obtain ⟨t, ht, h⟩ := optP_inv h
        obtain ⟨t1, ht1, h⟩ := optP_inv h
        obtain ⟨i, hi, h⟩ := optP_inv h
        obtain ⟨i1, hi1, h⟩ := optP_inv h
        have key : ∀ {v : Value} {w' : World}, (Builtin.append_ cl.argTypes o.type #[x, y]).run c.P w = .ok v w' → N v w' → o.wp c.P a w K Q := fun {v w'} hrun hn => by
          unfold Oper.wp execOp
          simp only [ho]
          unfold resolve
          simp only [hcal, pure_bind, invoke, builtin, harr, Sem.run_bind, hrun, Result.andThen_ok]
          exact hN _ _ hn
        split at h
        · rename_i e hd
          obtain ⟨ei, hei, h⟩ := optP_inv h
          have u : c.P.underlying t = some (.slice e) := by rw [(hc.ti hi).1, hd]
          obtain ⟨b, m, cap, hx, h⟩ := dS_inv h
          rw [hx] at key
          split at h
          · rename_i e' hd1
            have u1 : c.P.underlying t1 = some (.slice e') := by rw [(hc.ti hi1).1, hd1]
            obtain ⟨b', m', cap', hy, h⟩ := dS_inv h
            rw [hy] at key
            obtain ⟨b2, c2, w', hrun, h2⟩ := appP_core (ty := o.type) hc (hc.ti hei) h ht u (x := .slice b' m' cap') (fun xs hxs hl =>
              ⟨⟨t1, _, ht1, u1, .inr ⟨e', rfl⟩⟩, fun w' => by simp [Builtin.lenOf], fun w' hw => run_firstCells_O (w := w) hw hxs hl⟩)
            exact key hrun h2
          · rename_i hd1
            have u1 : c.P.underlying t1 = some .string := by rw [(hc.ti hi1).1, hd1]
            obtain ⟨s, hy, h⟩ := dStr_inv h
            rw [hy] at key
            obtain ⟨h1, h⟩ := chk_inv h
            have h1 := of_decide_eq_true h1
            obtain ⟨b2, c2, w', hrun, h2⟩ := appP_core (ty := o.type) hc (hc.ti hei) h ht u (x := .string s) (fun xs hxs hl =>
              ⟨⟨t1, _, ht1, u1, .inl rfl⟩, fun w' => by simp [Builtin.lenOf], fun w' hw => by
                subst hxs
                have hs : s.data.size = s.size := rfl
                have e1 : (s.extract 0 s.size).data = s.data := by
                  rw [ByteArray.data_extract, ← hs, Array.extract_size]
                simp only [Builtin.firstCells, Sem.run_pure, e1]
                congr 1
                apply Array.ext'
                simp [byteVals]⟩)
            exact key hrun h2
          · rename_i k1 hd1
            have u1 : c.P.underlying t1 = some (.int k1) := by rw [(hc.ti hi1).1, hd1]
            split at h
            · obtain ⟨h0, h⟩ := chk_inv h
              have h0 := of_decide_eq_true h0
              obtain ⟨b2, c2, w', hrun, h2⟩ := appzP_core (ty := o.type) hc (hc.ti hei) h ht u ht1 u1
              rw [Int.toNat_of_nonneg h0] at hrun
              exact key (hrun _) h2
            · exact h.elim
          · exact h.elim
        · exact h.elim
      · exact h.elim
    · rename_i hcal
      have h := opvs_inv hr h
      split at h
      · rename_i x y hxs
        have harr : cl.args.map a.eval = #[x, y] := by
          apply Array.ext'
          simpa using hxs
        obtain ⟨t, ht, h⟩ := optP_inv h
        obtain ⟨i, hi, h⟩ := optP_inv h
        split at h
        · rename_i e hd
          obtain ⟨ei, hei, h⟩ := optP_inv h
          have u : c.P.underlying t = some (.slice e) := by rw [(hc.ti hi).1, hd]
          obtain ⟨b, m, cap, hx, h⟩ := dS_inv h
          obtain ⟨b', m', cap', hy, h⟩ := dS_inv h
          obtain ⟨w', hrun, h2⟩ := copyP_sound (dc := cap) (sc := cap') (ty := o.type) hc (hc.ti hei) h ht u
          unfold Oper.wp execOp
          simp only [ho]
          unfold resolve
          simp only [hcal, pure_bind, invoke, builtin, harr, hx, hy, Sem.run_bind, hrun, Result.andThen_ok]
          exact hN _ _ h2
        · exact h.elim
      · exact h.elim
    · rename_i hcal
      have h := opvs_inv hr h
      split at h
      · rename_i t v hxs
        have harr : cl.args.map a.eval = #[.iface t v] := by
          apply Array.ext'
          simpa using hxs
        unfold Oper.wp execOp
        simp only [ho]
        unfold resolve
        simp only [hcal, pure_bind, invoke, builtin, harr]
        simp [Instr.panic, goPanic, Oper.upon]
        exact hX _ _ h
      · exact h.elim
    · exact hread h
  · rename_i x
    have h := opv_inv hr h
    split at h
    · rename_i t v hx
      unfold Oper.wp execOp
      simp [ho, hx, Instr.panic, goPanic, Oper.upon]
      exact hX _ _ h
    · exact h.elim
/-! #### maps that are made, and counted -/
def newMP (w : World) (K : Nat → World → Prop) : Prop := ∀ b w', b = w.heap.size → w' = w.alloc (.map #[] 0) → K b w'
def mlenP (w : World) (r : Option Nat) (K : Int → Prop) : Prop := match r with
  | none => K 0
  | some b => ∃ es n, w.heap[b]? = some (.map es n) ∧ K (es.size : Int)
def mapLen (c : Cx) (cl : Call) : Bool := match cl.argTypes[0]? with
  | some t => (match tget c.tb t with
    | some i => (match i.desc with | .map _ _ => true | _ => false)
    | none => false)
  | none => false
def evEffM (c : Cx) (o : Oper) (ov : Ov) (w : World) (N : Value → World → Prop) (X : List PanicEntry → World → Prop) : Prop :=
  match o.op with
  | .makeMap _ none => newMP w fun b w' => N (.map (some b)) w'
  | .call cl => (match cl.callee with
    | .builtin .len => cond (mapLen c cl) (opvs ov cl.args.toList fun xs => (match xs with
      | [x] => dM x fun r => mlenP w r fun n => N (.int .i64 n) w
      | _ => False)) (evEff c o ov w N X)
    | _ => evEff c o ov w N X)
  | _ => evEff c o ov w N X
theorem evEffM_sound {c : Cx} (hc : CxOk c) {n : Nat} {o : Oper} {a : Act} {ov : Ov} (hr : Rel n a ov) {w : World} {N : Value → World → Prop} {X : List PanicEntry → World → Prop}
    {K : Act → World → Prop} {Q : Exit → Act → World → Prop} (hN : ∀ v w', N v w' → K (a.put o.dst v) w') (hX : ∀ ch w', X ch w' → Q (.panic ch) a w')
    (h : evEffM c o ov w N X) : o.wp c.P a w K Q := by
  unfold evEffM at h
  split at h
  · rename_i t ho
    refine wp_of_v (m := Instr.makeMap t none) (v := .map (some w.heap.size)) (w' := w.alloc (.map #[] 0)) (by simp [execOp, ho]) ?_ (hN _ _ (h _ _ rfl rfl))
    simp [Instr.makeMap]
  · rename_i cl ho
    split at h
    · rename_i hb
      cases hm : mapLen c cl with
      | false =>
        rw [hm] at h
        exact evEff_sound hc hr hN hX h
      | true =>
        rw [hm] at h
        have h := opvs_inv hr h
        split at h
        · rename_i x hx
          obtain ⟨r, rfl, h⟩ := dM_inv h
          unfold mapLen at hm
          split at hm
          · rename_i t ht
            split at hm
            · rename_i i hi
              split at hm
              · rename_i k e hd
                have hu := (hc.ti hi).gives_u w rfl
                rw [hd] at hu
                have e1 : cl.args.map a.eval = #[.map r] := by
                  have : (cl.args.map a.eval).toList = [.map r] := by rw [Array.toList_map]; exact hx
                  exact Array.ext' this
                have fin : ∀ n : Int, (Builtin.len_ cl.argTypes o.type #[.map r]).run c.P w = .ok (.int .i64 n) w → N (.int .i64 n) w → o.wp c.P a w K Q := fun n hrun hn => by
                  unfold Oper.wp
                  have : (execOp a.eval o).run c.P w = .ok (.value (.int .i64 n)) w := by
                    unfold execOp
                    simp only [ho]
                    unfold resolve
                    rw [hb]
                    simp only [pure_bind, invoke]
                    rw [e1]
                    show (do pure (Next.value (← Builtin.len_ cl.argTypes o.type #[.map r]))).run c.P w = _
                    rw [Sem.run_bind, hrun]
                    rfl
                  rw [this]
                  exact hN _ _ hn
                cases r with
                | none => exact fin 0 (by simp [Builtin.len_, ht, hu, goInt]) h
                | some b =>
                  obtain ⟨es, m, he, h⟩ := h
                  have hg : (getObj b).run c.P w = .ok (.map es m) w := by simp [getObj, Sem.run, he]
                  exact fin _ (by simp [Builtin.len_, ht, hu, goInt, hg, Result.andThen]) h
              · cases hm
            · cases hm
          · cases hm
        · exact h.elim
    · exact evEff_sound hc hr hN hX h
  · exact evEff_sound hc hr hN hX h
end Go.Dec
