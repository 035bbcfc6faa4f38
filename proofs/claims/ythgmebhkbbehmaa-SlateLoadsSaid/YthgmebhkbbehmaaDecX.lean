/- Ranges over a function: code that stands in a round, and behind one; the statement of a function that holds one. Conditions: none; every theorem is over any program. -/
import Derived.Test.YthgmebhkbbehmaaDecH
import Derived.OrdersIn
import Derived.TacticsIn
import Derived.RangeFuncFrom
import Derived.RangeFuncLeaves
import Derived.RangeFuncCalls
namespace Go.Dec
set_option linter.unusedVariables false
set_option linter.unusedSimpArgs false

/-! ### 22. From the wide walk to one in a round, or with marks among the deferred calls -/
def FW (r : Option Nat) : Fence := { Fence.wide with round := r }
theorem calls_FW {r : Option Nat} {m : Nat} {P : Program} {f : FuncId} {args : Array Value} {w : World} {R : Ending → World → Prop} (h : Calls P f args w R) : CallsIn (FW r) m P f args w R := (callsIn_wide (n := m)).2 h
theorem rows_FW {r : Option Nat} {m : Nat} {P : Program} {row : String} {args : Array Value} {w : World} {R : Value → World → Prop} (h : Rows P row args w R) : RowsIn (FW r) m P row args w R := fun c cs _ => by
  obtain ⟨v, w', hr, hs⟩ := h c cs
  exact ⟨v, w', hr, stepsIn_wide.2 hs⟩
def notDefer (o : Oper) : Bool := match o.op with | .defer _ => false | _ => true
structure Same (ds : List Deferred) (a0 a : Act) : Prop where
  tmps : a0.tmps = a.tmps
  defs : a.defers = a0.defers ++ ds
theorem Same.put {ds : List Deferred} {a0 a : Act} (h : Same ds a0 a) (d : Option Nat) (v : Value) : Same ds (a0.put d v) (a.put d v) := by
  cases d with
  | none => exact h
  | some d => exact ⟨by simp only [Act.put]; rw [h.tmps], h.defs⟩
theorem Same.eval {ds : List Deferred} {a0 a : Act} (h : Same ds a0 a) : a0.eval = a.eval := by
  funext x
  cases x with
  | tmp t => show a0.tmps.getD t undef = a.tmps.getD t undef; rw [h.tmps]
  | _ => rfl
theorem opLift {r : Option Nat} {m : Nat} {P : Program} {ds : List Deferred} {o : Oper} {a0 a : Act} {w : World} {K K' : Act → World → Prop} {Q Q' : Exit → Act → World → Prop} (hs : Same ds a0 a) (nd : notDefer o = true)
    (h : o.wp P a0 w K Q) (hK : ∀ b0 b w, Same ds b0 b → K b0 w → K' b w) (hP : ∀ ch w, Q (.panic ch) a0 w → Q' (.panic ch) a w) (hL : ¬ LetsOut Q) : o.wpIn (FW r) m P a w K' Q' := by
  refine ⟨fun _ _ => trivial, ?_⟩
  rw [Oper.semAt_eq _ _ _ (by intro c e; simp [notDefer, e] at nd)]
  unfold Oper.wp at h
  rw [hs.eval] at h
  generalize (execOp a.eval o).run P w = res at h ⊢
  cases res with
  | ok x w' =>
    cases x with
    | value v => exact hK _ _ _ (hs.put _ _) h
    | skip => exact hK _ _ _ (hs.put _ _) h
    | defer d =>
      refine hK _ _ _ (Same.put ?_ _ _) h
      exact ⟨hs.tmps, by dsimp only; rw [hs.defs]; rfl⟩
    | enter f args =>
      refine ⟨fun e => (by cases e), calls_FW (Calls.mono h fun e w'' he => ?_)⟩
      cases e with
      | returned v => exact hK _ _ _ (hs.put _ _) he
      | panicked ch => exact hP _ _ he
      | outgrown => exact absurd he hL
    | row row args => exact ⟨fun e => (by cases e), rows_FW (Rows.mono h fun v w'' hv => hK _ _ _ (hs.put _ _) hv)⟩
    | _ => exact h.elim
  | halt x w' =>
    cases x with
    | panic v => exact hP _ _ h
    | _ => exact h.elim
theorem opsLift {r : Option Nat} {m : Nat} {P : Program} {ds : List Deferred} {ops : Array Oper} {Q Q' : Exit → Act → World → Prop} (nd : ∀ o ∈ ops.toList, notDefer o = true) (hQ : ∀ e a0 a w, Same ds a0 a → Q e a0 w → Q' e a w) (hL : ¬ LetsOut Q) :
    ∀ (l : List Nat) (a0 a : Act) (w : World), Same ds a0 a → wpOps P ops Q l a0 w → wpOpsIn (FW r) m P ops Q' l a w
  | [], a0, a, w, hs, h => hQ _ _ _ _ hs h
  | i :: rest, a0, a, w, hs, h => by
    unfold wpOps at h
    unfold wpOpsIn
    cases ho : ops[i]? with
    | none =>
      rw [ho] at h
      exact opsLift nd hQ hL rest a0 a w hs h
    | some o =>
      rw [ho] at h
      dsimp only at h ⊢
      rw [hs.tmps] at h
      split at h
      · rename_i hw
        rw [if_pos hw]
        rcases h with h | ⟨_, h⟩
        · exact opLift hs (nd o (by
            rw [← Array.getElem?_toList] at ho
            exact List.mem_of_getElem? ho)) h (fun b0 b w hb hk => opsLift nd hQ hL rest b0 b w hb hk) (fun ch w hp => hQ _ _ _ _ hs hp) hL
        · exact absurd h hL
      · rename_i hw
        rw [if_neg hw]
        exact ⟨fun _ _ => trivial, opsLift nd hQ hL rest _ _ _ (hs.put _ _) h⟩

/-! ### 23. What is known of an activation with marks -/
def RelD (ds : List Deferred) (n : Nat) (a : Act) (ov : Ov) : Prop := a.defers = ds ∧ a.tmps.size = n ∧ ∀ d v, ov.get d = some v → a.tmps[d]? = some v
theorem RelD.base {ds : List Deferred} {n : Nat} {a : Act} {ov : Ov} (h : RelD ds n a ov) : Rel n { a with defers := [] } ov := ⟨rfl, h.2.1, h.2.2⟩
theorem RelD.same {ds : List Deferred} {n : Nat} {a : Act} {ov : Ov} (h : RelD ds n a ov) : Same ds { a with defers := [] } a := ⟨rfl, by rw [h.1]; rfl⟩
theorem RelD.of {ds : List Deferred} {n : Nat} {a0 a : Act} {ov : Ov} (h : Rel n a0 ov) (hs : Same ds a0 a) : RelD ds n a ov := ⟨by rw [hs.defs, h.1]; rfl, by rw [← hs.tmps]; exact h.2.1, fun d v hv => by rw [← hs.tmps]; exact h.2.2 d v hv⟩
def HoldsD (ds : List Deferred) (n : Nat) (Q : Post) (Q' : Exit → Act → World → Prop) : Prop := ∀ e a ov w, RelD ds n a ov → Q e ov w → Q' e a w
theorem HoldsD.thn {ds : List Deferred} {n : Nat} {Q : Post} {Q' : Exit → Act → World → Prop} (h : HoldsD ds n Q Q') {N : Ov → World → Prop} {N' : Act → World → Prop} (hN : ∀ a ov w, RelD ds n a ov → N ov w → N' a w) : HoldsD ds n (Dec.thn N Q) (Exit.then N' Q') := by
  intro e a ov w hr hq
  cases e <;> first | exact hN _ _ _ hr hq | exact h _ _ _ _ hr hq
theorem HoldsD.inBlk {ds : List Deferred} {n : Nat} {Q : Post} {Q' : Exit → Act → World → Prop} (h : HoldsD ds n Q Q') (id : Nat) : HoldsD ds n (Dec.inBlk id Q) (Exit.inBlock id Q') := by
  intro e a ov w hr hq
  cases e with
  | exit id' =>
    simp only [Dec.inBlk] at hq
    simp only [Exit.inBlock]
    by_cases e : id' = id
    · subst e
      simp only [Nat.beq_refl, cond_true] at hq
      rw [if_pos rfl]
      exact h _ _ _ _ hr hq
    · have : Nat.beq id' id = false := by
        cases hb : Nat.beq id' id with
        | false => rfl
        | true => exact (e (Nat.eq_of_beq_eq_true hb)).elim
      rw [this] at hq
      rw [if_neg e]
      exact h _ _ _ _ hr hq
  | _ => exact h _ _ _ _ hr hq

/-! ### 24. Code in a round or behind one: no cuts, no loops -/
/-- yield, called. -/
def yldP (P : Program) (l : Nat) (args : Array Value) (w : World) (N : Value → World → Prop) : Prop := YieldAt Fence.wide 0 P l args w fun e w' => ∃ v, e = .returned v ∧ N v w'
def yieldOf (o : Oper) (ov : Ov) : Option (Nat × List Operand) :=
  match o.op with
  | .call cl => (match cl.callee with
    | .value (.tmp t) => (match ov.get t with
      | some (.func (.yield l) fi ca) => cond (Nat.beq fi.size 0 && Nat.beq ca.size 0) (some (l, cl.args.toList)) none
      | _ => none)
    | _ => none)
  | _ => none
def evOpsX (c : Cx) (n : Nat) (ops : List Oper) (Q : Ov → World → Prop) (X : Ov → List PanicEntry → World → Prop) : List Oper → Ov → World → Prop
  | [], ov, w => Q ov w
  | o :: r, ov, w => gP ops o.guard ov
    (fun ov => match yieldOf o ov with
      | some (l, xs) => opvs ov xs fun vs => yldP c.P l vs.toArray w fun v w' => optP (tget c.tb o.type) fun i => dTy i.desc v fun v => putP n o.dst v ov fun ov => evOpsX c n ops Q X r ov w'
      | none => evEff c o ov w (fun v w => putP n o.dst v ov fun ov => evOpsX c n ops Q X r ov w) (X ov))
    (fun ov => putP n o.dst undef ov fun ov => evOpsX c n ops Q X r ov w)
theorem evOpsX_sound {c : Cx} (hc : CxOk c) {n : Nat} {rd : Option Nat} {m : Nat} {ds : List Deferred} {ops : List Oper} (nd : ∀ o ∈ ops, notDefer o = true) {Q : Ov → World → Prop} {X : Ov → List PanicEntry → World → Prop} {Q' : Exit → Act → World → Prop}
    (hQ : ∀ a ov w, RelD ds n a ov → Q ov w → Q' .normal a w) (hX : ∀ a ov ch w, RelD ds n a ov → X ov ch w → Q' (.panic ch) a w) :
    ∀ (l : List Oper), (∀ o ∈ l, o ∈ ops) → ∀ (a : Act) (ov : Ov) (w : World), RelD ds n a ov → evOpsX c n ops Q X l ov w → wpListIn (FW rd) m c.P ops.toArray Q' l a w
  | [], _, a, ov, w, hr, h => hQ a ov w hr h
  | o :: r, hl, a, ov, w, hr, h => by
    unfold wpListIn
    have hl' : ∀ o ∈ r, o ∈ ops := fun x hx => hl x (List.mem_cons_of_mem _ hx)
    have hno := nd o (hl o (List.mem_cons_self ..))
    rcases gP_inv hr.base h with ⟨hw, ov', hr', h⟩ | ⟨hw, ov', hr', h⟩
    · rw [if_pos hw]
      cases hy : yieldOf o ov' with
      | none =>
        rw [hy] at h
        refine opLift (Q := fun e b w' => ∃ ch, e = .panic ch ∧ X ov' ch w') hr.same hno (evEff_sound hc hr' (K := fun b w' => ∃ ov2, Rel n b ov2 ∧ evOpsX c n ops Q X r ov2 w') (fun v w' hp => putP_inv hr' hp) (fun ch w' hx => ⟨ch, rfl, hx⟩) h) (fun b0 b w' hs ⟨ov2, hr2, h2⟩ => ?_) (fun ch w' ⟨ch', e, hx⟩ => ?_) (fun ⟨b, w', ch, e, _⟩ => by cases e)
        · exact evOpsX_sound hc nd hQ hX r hl' _ _ _ (.of hr2 hs) h2
        · cases e
          exact hX a ov' ch w' (.of hr' hr.same) hx
      | some p =>
        obtain ⟨l, xs⟩ := p
        rw [hy] at h
        dsimp only at h
        have h := opvs_inv hr' h
        have hop : ∃ cl t, o.op = .call cl ∧ cl.callee = .value (.tmp t) ∧ ov'.get t = some (.func (.yield l) #[] #[]) ∧ xs = cl.args.toList := by
          unfold yieldOf at hy
          split at hy
          · rename_i cl hcl
            split at hy
            · rename_i t ht
              split at hy
              · rename_i l' fi ca hg
                cases hz : Nat.beq fi.size 0 && Nat.beq ca.size 0 with
                | false => rw [hz] at hy; cases hy
                | true =>
                  rw [hz] at hy
                  simp only [cond_true, Option.some.injEq, Prod.mk.injEq] at hy
                  have hz := Bool.and_eq_true_iff.1 hz
                  have e1 : fi = #[] := Array.eq_empty_of_size_eq_zero (Nat.eq_of_beq_eq_true hz.1)
                  have e2 : ca = #[] := Array.eq_empty_of_size_eq_zero (Nat.eq_of_beq_eq_true hz.2)
                  exact ⟨cl, t, hcl, ht, by rw [hg, hy.1, e1, e2], hy.2.symm⟩
              · cases hy
            · cases hy
          · cases hy
        obtain ⟨cl, t, hcl, hcal, hget, rfl⟩ := hop
        have hval : a.eval (.tmp t) = .func (.yield l) #[] #[] := by
          have := hr'.2.2 t _ hget
          show a.tmps.getD t undef = _
          rw [Array.getD_eq_getD_getElem?]
          have e : ({ a with defers := [] } : Act).tmps = a.tmps := rfl
          rw [e] at this
          rw [this]
          rfl
        obtain ⟨fn, tmps, assign, body, hrun, hround⟩ := h
        refine ⟨fun _ _ => trivial, ?_⟩
        rw [Oper.semAt_eq _ _ _ (by intro d e; rw [hcl] at e; cases e)]
        have eargs : (cl.args.toList.map ({ a with defers := [] } : Act).eval).toArray = cl.args.map a.eval := by
          apply Array.ext'
          simp only [Array.toList_map]
          rfl
        rw [eargs] at hrun
        have hex : (execOp a.eval o).run c.P w = .ok (.round l fn tmps assign body) w := by
          unfold execOp
          simp only [hcl]
          unfold resolve
          simp only [hcal, hval, Deferred.ofValue, pure_bind, invoke, Sem.run_bind, Sem.run_pure, Result.andThen_ok]
          simpa using hrun
        rw [hex]
        refine ⟨fun e => (by cases e), ?_⟩
        refine RoundIn.mono (F := FW rd) (n := m - 1) ⟨hround.1, fun c cs _ => hround.2 c cs (room_wide _)⟩ fun e w' he => ?_
        obtain ⟨v, rfl, hv⟩ := he
        obtain ⟨i, hi, hv⟩ := optP_inv hv
        obtain ⟨ov2, hr2, h2⟩ := putP_inv hr' (dTy_inv hv)
        exact evOpsX_sound hc nd hQ hX r hl' _ _ _ (.of hr2 (hr.same.put _ _)) h2
    · rw [if_neg (by simp [hw])]
      obtain ⟨ov2, hr2, h2⟩ := putP_inv hr' h
      exact ⟨fun _ _ => trivial, evOpsX_sound hc nd hQ hX r hl' _ _ _ (.of hr2 (hr.same.put _ _)) h2⟩

def evX (c : Cx) (n : Nat) : Code → Sk → Post → Ov → World → Prop
  | .skip, _, Q, ov, w => Q .normal ov w
  | .ret, _, Q, ov, w => Q .ret ov w
  | .exit id, _, Q, ov, w => Q (.exit id) ov w
  | .region _ ops dr, _, Q, ov, w => chk (ops.toList.all notDefer) (cond dr
    (chk (okG ops.toList) (evG c n ops.toList (Q .normal) (fun ch w => Q (.panic ch) [] w) (ops.toList.length + 1) [] [] ov w.drew))
    (evOpsX c n ops.toList (Q .normal) (fun ov ch w => Q (.panic ch) ov w) ops.toList ov w))
  | .seq x y, s, Q, ov, w => evX c n x s.left (thn (seqK s (evX c n y s.right Q)) Q) ov w
  | .cond p x y, s, Q, ov, w => opv ov p fun v => dB v fun b => cond b (evX c n x s.left Q ov w) (evX c n y s.right Q ov w)
  | .block id x, s, Q, ov, w => evX c n x s.left (inBlk id Q) ov w
  | .label _, _, Q, ov, w => Q .normal ov w
  | .loop x, .loop sl K _, Q, ov, w => tApp sl K ov w
  | _, _, _, _, _ => False
def oblX (c : Cx) (n : Nat) : Code → Sk → Post → Prop
  | .seq x y, .cut sl K sx sy, Q => oblX c n x sx (thn (tApp sl K) Q) ∧ tAll sl K (evX c n y sy Q) [] ∧ oblX c n y sy Q
  | .seq x y, s, Q => oblX c n x s.left (thn (seqK s (evX c n y s.right Q)) Q) ∧ oblX c n y s.right Q
  | .cond _ x y, s, Q => oblX c n x s.left Q ∧ oblX c n y s.right Q
  | .block id x, s, Q => oblX c n x s.left (inBlk id Q)
  | .loop x, .loop sl K body, Q =>
    tAll sl K (fun ov w => ∃ (I : TF Prop sl) (m : TF Nat sl), tApp sl I ov w ∧ tAllM sl I m (fun k ov w => evX c n x (body (tLt sl I m k)) (thn (tApp sl (tLt sl I m k)) Q) ov w) []) [] ∧
      ∀ C : TF Prop sl, oblX c n x (body C) (thn (tApp sl C) Q)
  | _, _, _ => True
def oblXF (c : Cx) (n : Nat) : Code → Sk → Post → Prop → Prop
  | .seq x y, .cut sl K sx sy, Q, r => oblXF c n x sx (thn (tApp sl K) Q) (tAll sl K (evX c n y sy Q) [] ∧ oblXF c n y sy Q r)
  | .seq x y, s, Q, r => oblXF c n x s.left (thn (seqK s (evX c n y s.right Q)) Q) (oblXF c n y s.right Q r)
  | .cond _ x y, s, Q, r => oblXF c n x s.left Q (oblXF c n y s.right Q r)
  | .block id x, s, Q, r => oblXF c n x s.left (inBlk id Q) r
  | .loop x, .loop sl K body, Q, r =>
    tAll sl K (fun ov w => ∃ (I : TF Prop sl) (m : TF Nat sl), tApp sl I ov w ∧ tAllM sl I m (fun k ov w => evX c n x (body (tLt sl I m k)) (thn (tApp sl (tLt sl I m k)) Q) ov w) []) [] ∧
      (∀ C : TF Prop sl, oblXF c n x (body C) (thn (tApp sl C) Q) True) ∧ r
  | _, _, _, r => r
theorem oblX_of_oblXF {c : Cx} {n : Nat} : ∀ (x : Code) (s : Sk) (Q : Post) (r : Prop), oblXF c n x s Q r → oblX c n x s Q ∧ r := by
  intro x
  induction x with
  | seq x y ihx ihy =>
    intro s Q r h
    cases s with
    | cut sl K sx sy =>
      obtain ⟨h1, h2, h3⟩ := ihx _ _ _ h
      obtain ⟨h4, h5⟩ := ihy _ _ _ h3
      exact ⟨⟨h1, h2, h4⟩, h5⟩
    | _ =>
      obtain ⟨h1, h2⟩ := ihx _ _ _ h
      obtain ⟨h4, h5⟩ := ihy _ _ _ h2
      exact ⟨⟨h1, h4⟩, h5⟩
  | cond p x y ihx ihy =>
    intro s Q r h
    obtain ⟨h1, h2⟩ := ihx _ _ _ h
    obtain ⟨h4, h5⟩ := ihy _ _ _ h2
    exact ⟨⟨h1, h4⟩, h5⟩
  | block id x ih => exact fun s Q r h => ih _ _ _ h
  | loop x ih =>
    intro s Q r h
    cases s with
    | loop sl K body =>
      obtain ⟨h1, h2, h3⟩ := h
      exact ⟨⟨h1, fun C => (ih _ _ _ (h2 C)).1⟩, h3⟩
    | _ => exact ⟨trivial, h⟩
  | _ => exact fun s Q r h => ⟨trivial, h⟩
theorem range_list (n : Nat) : List.range n = List.range' 0 n := List.range_eq_range' ..
theorem evX_sound {c : Cx} (hc : CxOk c) {n : Nat} {rd : Option Nat} {m : Nat} {ds : List Deferred} : ∀ (x : Code) (s : Sk) (Q : Post) (Q' : Exit → Act → World → Prop) (a : Act) (ov : Ov) (w : World),
    oblX c n x s Q → HoldsD ds n Q Q' → RelD ds n a ov → evX c n x s Q ov w → x.wpIn (FW rd) m c.P Q' a w := by
  intro x
  induction x with
  | skip => exact fun s Q Q' a ov w _ hQ hr h => wpIn_skip (hQ _ _ _ _ hr h)
  | ret => exact fun s Q Q' a ov w _ hQ hr h => wpIn_ret (hQ _ _ _ _ hr h)
  | exit id => exact fun s Q Q' a ov w _ hQ hr h => wpIn_exit (hQ _ _ _ _ hr h)
  | label l => exact fun s Q Q' a ov w _ hQ hr h => wpIn_label (hQ _ _ _ _ hr h)
  | goto l => exact fun s Q Q' a ov w _ hQ hr h => h.elim
  | refuse m => exact fun s Q Q' a ov w _ hQ hr h => h.elim
  | scope x ih => exact fun s Q Q' a ov w _ hQ hr h => h.elim
  | rangeFunc f ps as bd => exact fun s Q Q' a ov w _ hQ hr h => h.elim
  | region id ops dr =>
    intro s Q Q' a ov w _ hQ hr h
    obtain ⟨nd, h⟩ := chk_inv h
    have nd : ∀ o ∈ ops.toList, notDefer o = true := fun o ho => List.all_eq_true.1 nd o ho
    cases dr with
    | false =>
      refine wpIn_region_list ?_
      have := evOpsX_sound hc (rd := rd) (m := m) (ds := ds) nd (Q := Q .normal) (X := fun ov ch w => Q (.panic ch) ov w) (Q' := Q') (fun a ov w hr h => hQ _ _ _ _ hr h) (fun a ov ch w hr h => hQ _ _ _ _ hr h) ops.toList (fun o ho => ho) a ov w hr h
      simpa using this
    | true =>
      obtain ⟨hok, h⟩ := chk_inv h
      refine wpIn_region_draw fun t => ?_
      simp only [Region.schedule, hc.mixed, Bool.true_or, if_true]
      have hb := hr.base
      have key := evG_sound hc hok (Q := Q .normal) (X := fun ch w => Q (.panic ch) [] w) (Q' := fun e b w' => (e = .normal ∧ ∃ ov, Rel n b ov ∧ Q .normal ov w') ∨ ∃ ch, e = .panic ch ∧ Rel n b [] ∧ Q (.panic ch) [] w')
        (fun a ov w hr h => .inl ⟨rfl, ov, hr, h⟩) (fun a ch w hr h => .inr ⟨ch, rfl, hr, h⟩) ops.size _ [] [] ov { a with defers := [] } { a with defers := [] } (Array.replicate ops.size false) _ ?_ ?_ h
      · refine opsLift nd (fun e a0 a w hs hq => ?_) (fun ⟨b, w', hq⟩ => ?_) _ _ a _ hr.same (wpAny_sound ops.size t _ _ _ key)
        · rcases hq with ⟨rfl, ov, hr0, hq⟩ | ⟨ch, rfl, hr0, hq⟩
          · exact hQ _ _ _ _ (.of hr0 hs) hq
          · exact hQ _ _ _ _ (.of hr0 hs) hq
        · rcases hq with ⟨e, _⟩ | ⟨ch, e, _⟩ <;> cases e
      · refine ⟨hb, hb.1, hb.2.1, by simp, ?_, trivial, ?_, ?_, ?_, fun d _ => rfl, fun i hi => (by cases hi)⟩
        · intro i hi
          rw [Array.getElem?_replicate] at hi
          split at hi <;> simp at hi
        · intro i hi
          rw [Array.getElem?_replicate] at hi
          split at hi <;> simp at hi
        · intro i hi; cases hi
        · intro i hi; cases hi
      · simp
  | seq x y ihx ihy =>
    intro s Q Q' a ov w ho hQ hr h
    refine wpIn_seq ?_
    cases s with
    | cut sl K sx sy =>
      obtain ⟨ho1, ho2, ho3⟩ := ho
      refine ihx sx (thn (tApp sl K) Q) _ a ov w ho1 (hQ.thn fun a' ov' w' hr' hk => ?_) hr h
      obtain ⟨ov2, hr2, h2⟩ := tAll_use hr'.base hr'.base.nil ho2 hk
      exact ihy sy Q Q' a' ov2 w' ho3 hQ (.of hr2 hr'.same) h2
    | _ =>
      obtain ⟨ho1, ho2⟩ := ho
      exact ihx _ _ _ a ov w ho1 (hQ.thn fun a' ov' w' hr' hk => ihy _ Q Q' a' ov' w' ho2 hQ hr' hk) hr h
  | cond p x y ihx ihy =>
    intro s Q Q' a ov w ho hQ hr h
    obtain ⟨b, hb, h⟩ := dB_inv (opv_inv hr.base h)
    have hb : a.eval p = .bool b := by rw [← hb, hr.same.eval]
    refine wpIn_cond hb ?_
    cases b with
    | true => exact ihx s.left Q Q' a ov w ho.1 hQ hr h
    | false => exact ihy s.right Q Q' a ov w ho.2 hQ hr h
  | block id x ih =>
    intro s Q Q' a ov w ho hQ hr h
    exact wpIn_block (ih s.left _ _ a ov w ho (hQ.inBlk id) hr h)
  | loop x ih =>
    intro s Q Q' a ov w ho hQ hr h
    cases s with
    | loop sl K body =>
      obtain ⟨ho1, ho2⟩ := ho
      obtain ⟨ov1, hr1, I, mm, hI, hround⟩ := tAll_use hr.base hr.base.nil ho1 h
      have hmore : ∀ {a : Act} {ov : Ov}, RelD ds n a ov → ∀ d v, ov.get d = some v → (actOv a).get d = some v := fun hr d v h => by rw [get_actOv]; exact hr.2.2 d v h
      have hr1 : RelD ds n a ov1 := .of hr1 hr.same
      refine wpIn_loop (fun a w => a.defers = ds ∧ a.tmps.size = n ∧ tApp sl I (actOv a) w) (fun a w => tNum sl mm (actOv a) w) ⟨hr1.1, hr1.2.1, (tApp_more (hmore hr1) hI).1⟩ ?_
      rintro a' w' ⟨hd, hn, hI'⟩
      have hra : RelD ds n a' (actOv a') := ⟨hd, hn, fun d v h => by rw [← get_actOv]; exact h⟩
      obtain ⟨ov2, hr2, h2⟩ := tAllM_use hra.base hra.base.nil hround hI'
      refine ih _ _ _ a' ov2 w' (ho2 _) (hQ.thn fun a3 ov3 w3 hr3 h3 => ?_) (.of hr2 hra.same) h2
      obtain ⟨h4, h5⟩ := tApp_tLt h3
      obtain ⟨h6, h7⟩ := tApp_more (hmore hr3) h4
      exact ⟨⟨hr3.1, hr3.2.1, h6⟩, by rw [← h7 mm]; exact h5⟩
    | _ => exact h.elim

/-! ### 25. The range over a function -/
structure RFok {α : Type} (P : Program) (gf : Nat) (lb : Array Value) (enc : α → Value) (Kq : World → World → Prop) (S Sp : List α → Prop) (N : Nat) (I Ix : List α → World → Prop) (w : World) : Prop where
  seq : SeqStopsK Fence.wide 0 P gf lb (fun x => #[enc x]) Kq S Sp N w
  trans : ∀ {A B C : World}, Kq A B → Kq B C → Kq A C
  book : ∀ (W : World) (l : Nat) (o o' : Obj), w.heap.size ≤ l → W.heap[l]? = some o → o.isCells = false → o.isWalk = false → Kq W (W.putObj l o')
  own : OwnFrom w.heap.size I
  ownx : OwnFrom w.heap.size Ix
  start : I [] w
def rfPost {α : Type} (Kq : World → World → Prop) (I Ix : List α → World → Prop) (xs : List α) (W : World) : Post
  | .normal, _, W' => KeepsOthers W W' ∧ Kq W W' ∧ I xs W'
  | .ret, _, W' => KeepsOthers W W' ∧ Ix xs W'
  | _, _, _ => False
def coll (D : Nat) : Deferred := { target := .collected D, args := #[] }
def withD (D : Nat) (Q : Post) : Post := fun e ov w => w.heap[D]? = some (.deferred (some [])) ∧ Q e ov (w.putObj D (.deferred none))
def asOp : Code → Array Tmp → Option (Nat × Nat)
  | .region _ ops false, ps => (match ops.toList, ps.toList with
    | [o], [p] => (match o.op, o.dst, o.guard with
      | .assign (.tmp q), some d, none => cond (Nat.beq q p) (some (p, d)) none
      | _, _, _ => none)
    | _, _ => none)
  | _, _ => none
def asTy : Code → Option TypeId
  | .region _ ops false => (match ops.toList with | [o] => some o.type | _ => none)
  | _ => none
def plainX : Code → Bool
  | .seq x y => plainX x && plainX y
  | .cond _ x y => plainX x && plainX y
  | .block _ x => plainX x
  | .loop _ => false
  | _ => true
theorem oblX_plain {c : Cx} {n : Nat} : ∀ (x : Code) (Q : Post), plainX x = true → oblX c n x .leaf Q := by
  intro x
  induction x with
  | seq x y ihx ihy => exact fun Q h => ⟨ihx _ (Bool.and_eq_true_iff.1 h).1, ihy _ (Bool.and_eq_true_iff.1 h).2⟩
  | cond p x y ihx ihy => exact fun Q h => ⟨ihx _ (Bool.and_eq_true_iff.1 h).1, ihy _ (Bool.and_eq_true_iff.1 h).2⟩
  | block id x ih => exact fun Q h => ih _ h
  | loop x ih => exact fun Q h => trivial
  | _ => exact fun Q h => trivial
def dFn (v : Value) (K : Nat → Array Value → Array Value → Prop) : Prop := match v with | .func (.func gf) fi lb => K gf fi lb | _ => False
theorem dFn_inv {v : Value} {K : Nat → Array Value → Array Value → Prop} (h : dFn v K) : ∃ gf fi lb, v = .func (.func gf) fi lb ∧ K gf fi lb := by
  unfold dFn at h
  split at h
  · exact ⟨_, _, _, rfl, h⟩
  · exact h.elim
def rfX (c : Cx) (n : Nat) (g : Operand) (ps : Array Tmp) (as bd y : Code) (Q : Post) (ov : Ov) (w : World) : Prop :=
  optP (asOp as ps) fun pd => opv ov g fun v => dFn v fun gf fi lb => chk (Nat.beq fi.size 0 && c.fns.contains gf && Nat.blt pd.1 n && Nat.blt pd.2 n && plainX bd && plainX y)
      (∃ (α : Type) (enc : α → Value) (Kq : World → World → Prop) (S Sp : List α → Prop) (N : Nat) (I Ix : List α → World → Prop), RFok c.P gf lb enc Kq S Sp N I Ix w ∧
        (∀ (pre : List α) (x : α) (W : World), I pre W → pre.length < N → optP (asTy as) fun ty => optP (tget c.tb ty) fun i => dTy i.desc (enc x) fun v => evX c n bd .leaf (rfPost Kq I Ix (pre ++ [x]) W) ((pd.2, v) :: (pd.1, v) :: ov) W) ∧
        (∀ (D : Nat) (xs : List α) (W : World), w.heap.size ≤ D → S xs → I xs W → W.heap[D]? = some (.deferred (some [])) → evX c n y .leaf (withD D Q) ov W) ∧
        (∀ (D : Nat) (pre : List α) (W : World), w.heap.size ≤ D → Sp pre → Ix pre W → W.heap[D]? = some (.deferred (some [])) → withD D Q .ret ov W))
theorem rfX_sound {c : Cx} (hc : CxOk c) {n id : Nat} {g : Operand} {ps : Array Tmp} {as bd y : Code} {Q : Post} {Q' : Exit → Act → World → Prop} {a : Act} {ov : Ov} {w : World}
    (hM : ∀ D, HoldsD [coll D] n (withD D Q) Q') (hr : Rel n a ov) (h : rfX c n g ps as bd y Q ov w) :
    (Code.block id (.rangeFunc g ps as bd)).wpIn (FW none) 2 c.P (Exit.then (y.wpIn (FW none) 2 c.P Q') Q') a w := by
  obtain ⟨⟨p, d⟩, hpd, h⟩ := optP_inv h
  have h1 := opv_inv hr h
  clear h
  obtain ⟨gf, fi, lb, hg, h2⟩ := dFn_inv h1
  clear h1
  have h4 := chk_inv h2
  clear h2
  obtain ⟨hb, h3⟩ := h4
  simp only [Bool.and_eq_true] at hb
  obtain ⟨⟨⟨⟨⟨b1, b2⟩, b3⟩, b4⟩, b5⟩, b6⟩ := hb
  have hfi : fi = #[] := Array.eq_empty_of_size_eq_zero (Nat.eq_of_beq_eq_true b1)
  subst hfi
  have hp : p + 1 ≤ n := by simpa [Nat.blt, Nat.ble_eq] using b3
  have hd : d + 1 ≤ n := by simpa [Nat.blt, Nat.ble_eq] using b4
  have hp : p < n := hp
  have hd : d < n := hd
  obtain ⟨fn, hfn, hname, hbody⟩ := hc.fn gf (by simpa using b2)
  obtain ⟨α, enc, Kq, S, Sp, N, I, Ix, ok, hbd, hdone, hstop⟩ := h3
  have has : ∃ i ops o, as = .region i ops false ∧ ops.toList = [o] ∧ ps = #[p] ∧ o.op = .assign (.tmp p) ∧ o.dst = some d ∧ o.guard = none := by
    unfold asOp at hpd
    split at hpd
    · rename_i i ops
      split at hpd
      · rename_i o q hops hps
        split at hpd
        · rename_i q2 d2 h1 h2 h3
          cases hq : Nat.beq q2 q with
          | false => rw [hq] at hpd; cases hpd
          | true =>
            rw [hq] at hpd
            simp only [cond_true, Option.some.injEq, Prod.mk.injEq] at hpd
            have hq := Nat.eq_of_beq_eq_true hq
            obtain ⟨rfl, rfl⟩ := hpd
            refine ⟨_, ops, o, rfl, hops, ?_, by rw [h1, hq], h2, h3⟩
            apply Array.ext'
            exact hps
        · cases hpd
      · cases hpd
    · cases hpd
  obtain ⟨i, ops, o, rfl, hops, rfl, hop, hdst, hgd⟩ := has
  refine wpIn_block ?_
  let a1 : α → Act := fun x => { tmps := (a.tmps.setIfInBounds p (enc x)).setIfInBounds d (enc x), defers := [] }
  refine wpIn_rangeFunc_ownF (F := FW none) (n := 2) (w0 := w) rfl (by omega) (gf := gf) (lb := lb) hg trivial (fun args w => run_callFunc hfn hname hbody) (encs := fun x => #[enc x]) (Kp := Kq) (S := S) (Sp := Sp) (N := N) ?_ (fun h k => ok.trans h k) ok.book (Go.RowKit.Below.refl _ _) (fun x => rfl)
    I (fun c xs W => c = .ret ∧ Ix xs W) ok.own ?_ ok.start a1 ?_ ?_ ?_ ?_
  · intro l J Jx W hb hJ hJx hy h0
    have := ok.seq l J Jx W hb hJ hJx (fun pre x W1 hj hl => by
      obtain ⟨fn, tmps, assign, body, hy1, hy2⟩ := hy pre x W1 hj hl
      exact ⟨fn, tmps, assign, body, hy1, ⟨hy2.1, fun c cs _ => hy2.2 c cs (room_wide _)⟩⟩) h0
    exact calls_FW (callsIn_wide.1 this)
  · intro c s A B row hs hg' hrow
    exact ⟨hs.1, ok.ownx _ A B row hs.2 hg' hrow⟩
  · intro l x W K hK
    refine wpIn_region_list ?_
    rw [hops]
    unfold wpListIn
    rw [if_pos (by simp [Region.wanted, hgd])]
    refine ⟨fun _ _ => trivial, ?_⟩
    rw [Oper.semAt_eq _ _ _ (by intro c e; rw [hop] at e; cases e)]
    have e0 : (#[p].zip #[enc x]).foldl (fun t (x : Nat × Value) => t.setIfInBounds x.1 x.2) a.tmps = a.tmps.setIfInBounds p (enc x) := by
      have : (#[p].zip #[enc x]).toList = [(p, enc x)] := by simp
      rw [← Array.foldl_toList, this]
      rfl
    have hev : (a.tmps.setIfInBounds p (enc x)).getD p undef = enc x := by
      have : p < a.tmps.size := by rw [hr.2.1]; exact hp
      simp [this]
    have hrun : (execOp ({ tmps := (#[p].zip #[enc x]).foldl (fun t (x : Nat × Value) => t.setIfInBounds x.1 x.2) a.tmps, defers := [] } : Act).eval o).run c.P W = .ok (.value (enc x)) W := by
      rw [e0]
      unfold execOp
      simp only [hop]
      have : ({ tmps := a.tmps.setIfInBounds p (enc x), defers := [] } : Act).eval (.tmp p) = enc x := hev
      simp [this]
    refine (congrArg (Oper.uponIn (FW (some l)) _ c.P o _ _ _) hrun).mpr ?_
    rw [Oper.uponIn_value, hdst]
    exact (congrArg (fun t => K (Act.put { tmps := t, defers := [] } (some d) (enc x)) W) e0).mpr hK
  · intro l pre x W hi hl
    obtain ⟨_, _, hb2⟩ := optP_inv (hbd pre x W hi hl)
    obtain ⟨_, _, hb3⟩ := optP_inv hb2
    refine evX_sound hc (ds := []) (rd := some l) bd .leaf _ _ (a1 x) _ W (oblX_plain _ _ b5) ?_ ?_ (dTy_inv hb3)
    · intro e b ov' w' _ hq
      cases e with
      | normal => exact hq
      | ret => exact ⟨hq.1, rfl, hq.2⟩
      | _ => exact hq.elim
    · refine ⟨rfl, by simp [a1, hr.2.1], fun j v hj => ?_⟩
      rw [get_cons, get_cons] at hj
      show ((a.tmps.setIfInBounds p (enc x)).setIfInBounds d (enc x))[j]? = some v
      have hsz := hr.2.1
      by_cases e1 : d = j
      · subst e1
        rw [if_pos rfl] at hj
        rw [Array.getElem?_setIfInBounds_self_of_lt (by simp [hsz, hd])]
        exact hj
      · rw [if_neg e1] at hj
        rw [Array.getElem?_setIfInBounds_ne e1]
        by_cases e2 : p = j
        · subst e2
          rw [if_pos rfl] at hj
          rw [Array.getElem?_setIfInBounds_self_of_lt (by rw [hsz]; exact hp)]
          exact hj
        · rw [if_neg e2] at hj
          rw [Array.getElem?_setIfInBounds_ne e2]
          exact hr.2.2 j v hj
  · intro D xs W hD hS hI hW
    have hrel : RelD [coll D] n { a with defers := { target := .collected D, args := #[] } :: a.defers } ov := ⟨by show _ :: a.defers = _; rw [hr.1]; rfl, hr.2.1, hr.2.2⟩
    exact evX_sound hc (ds := [coll D]) (rd := none) y .leaf _ _ _ ov W (oblX_plain _ _ b6) (hM D) hrel (hdone D xs W hD hS hI hW)
  · rintro D c' pre W hD hS ⟨rfl, hI⟩ hW
    have hrel : RelD [coll D] n { a with defers := { target := .collected D, args := #[] } :: a.defers } ov := ⟨by show _ :: a.defers = _; rw [hr.1]; rfl, hr.2.1, hr.2.2⟩
    exact wpIn_ret (hM D .ret _ ov W hrel (hstop D pre W hD hS hI hW))

/-! ### 26. A function that holds a range over a function: in its outermost row of statements -/
inductive TSk where
  | rf (s : Sk)
  | seq (s : Sk) (t : TSk)
  | cut (sl : List (Nat × Sl)) (K : TF Prop sl) (s : Sk) (t : TSk)
def evT (c : Cx) (n : Nat) : TSk → Code → Post → Ov → World → Prop
  | .rf s, .seq (.seq z (.block _ (.rangeFunc g ps as bd))) y, Q, ov, w => evA c n z s (thn (rfX c n g ps as bd y Q) Q) ov w
  | .rf _, _, _, _, _ => False
  | .seq s t, .seq x y, Q, ov, w => evA c n x s (thn (evT c n t y Q) Q) ov w
  | .seq _ _, _, _, _, _ => False
  | .cut sl K s t, .seq x y, Q, ov, w => evA c n x s (thn (tApp sl K) Q) ov w
  | .cut _ _ _ _, _, _, _, _ => False
def oblTF (c : Cx) (n : Nat) : TSk → Code → Post → Prop → Prop
  | .rf s, .seq (.seq z (.block _ (.rangeFunc g ps as bd))) y, Q, r => oblF c n z s (thn (rfX c n g ps as bd y Q) Q) r
  | .rf _, _, _, r => r
  | .seq s t, .seq x y, Q, r => oblF c n x s (thn (evT c n t y Q) Q) (oblTF c n t y Q r)
  | .seq _ _, _, _, r => r
  | .cut sl K s t, .seq x y, Q, r => oblF c n x s (thn (tApp sl K) Q) (tAll sl K (evT c n t y Q) [] ∧ oblTF c n t y Q r)
  | .cut _ _ _ _, _, _, r => r
theorem wide_of {P : Program} {m : Nat} {x : Code} {Q : Exit → Act → World → Prop} {a : Act} {w : World} (h : x.wp P Q a w) : x.wpIn (FW none) m P Q a w := (wpIn_wide (n := m)).2 h
theorem evT_sound {c : Cx} (hc : CxOk c) {n : Nat} : ∀ (t : TSk) (x : Code) (Q : Post) (Q' : Exit → Act → World → Prop) (a : Act) (ov : Ov) (w : World) (r : Prop),
    oblTF c n t x Q r → Holds n Q Q' → (∀ D, HoldsD [coll D] n (withD D Q) Q') → Rel n a ov → evT c n t x Q ov w → x.wpIn (FW none) 2 c.P Q' a w := by
  intro t
  induction t with
  | rf s =>
    intro x Q Q' a ov w r ho hQ hM hr h
    cases x with
    | seq u y =>
      cases u with
      | seq z b =>
        cases b with
        | block id rf =>
          cases rf with
          | rangeFunc g ps as bd =>
            have h : evA c n z s (thn (rfX c n g ps as bd y Q) Q) ov w := h
            have ho : oblF c n z s (thn (rfX c n g ps as bd y Q) Q) r := ho
            refine wpIn_seq (wpIn_seq (wide_of ?_))
            refine evA_sound hc z s _ _ a ov w (obl_of_oblF _ _ _ _ ho).1 (fun e a' ov' w' hr' hq => ?_) hr h
            cases e with
            | normal => exact rfX_sound hc hM hr' hq
            | _ => exact hQ _ _ _ _ hr' hq
          | _ => exact h.elim
        | _ => exact h.elim
      | _ => exact h.elim
    | _ => exact h.elim
  | seq s t ih =>
    intro x Q Q' a ov w r ho hQ hM hr h
    cases x with
    | seq x y =>
      have ho : oblF c n x s (thn (evT c n t y Q) Q) (oblTF c n t y Q r) := ho
      obtain ⟨ho1, ho2⟩ := obl_of_oblF _ _ _ _ ho
      refine wpIn_seq (wide_of ?_)
      refine evA_sound hc x s _ _ a ov w ho1 (fun e a' ov' w' hr' hq => ?_) hr h
      cases e with
      | normal => exact ih y Q Q' a' ov' w' r ho2 hQ hM hr' hq
      | _ => exact hQ _ _ _ _ hr' hq
    | _ => exact h.elim
  | cut sl K s t ih =>
    intro x Q Q' a ov w r ho hQ hM hr h
    cases x with
    | seq x y =>
      have ho : oblF c n x s (thn (tApp sl K) Q) (tAll sl K (evT c n t y Q) [] ∧ oblTF c n t y Q r) := ho
      obtain ⟨ho1, ho2, ho3⟩ := obl_of_oblF _ _ _ _ ho
      refine wpIn_seq (wide_of ?_)
      refine evA_sound hc x s _ _ a ov w ho1 (fun e a' ov' w' hr' hq => ?_) hr h
      cases e with
      | normal =>
        obtain ⟨ov2, hr2, h2⟩ := tAll_use hr' hr'.nil ho2 hq
        exact ih y Q Q' a' ov2 w' r ho3 hQ hM hr2 h2
      | _ => exact hQ _ _ _ _ hr' hq
    | _ => exact h.elim

/-! ### 27. Calls -/
theorem rel_args {n : Nat} {args : List Value} (ha : args.length ≤ n) : Rel n { tmps := args.toArray ++ Array.replicate (n - args.toArray.size) undef, defers := [] } (argOv 0 args) := by
  refine ⟨rfl, by simp; omega, fun d v hd => ?_⟩
  obtain ⟨_, h2⟩ := get_argOv args 0 d v hd
  rw [Nat.sub_zero] at h2
  rw [Array.getElem?_append]
  have : d < args.toArray.size := by
    simp
    exact (List.getElem?_eq_some_iff.1 h2).1
  rw [if_pos this]
  simpa using h2
theorem resAll_runD {c : Cx} (hc : CxOk c) {n : Nat} {ds : List Deferred} {a : Act} {ov : Ov} (hr : RelD ds n a ov) {fn : Func} {rs : List ResultVar} (hrs : fn.results.toList = rs) {w : World} {K : List Value → Prop} (h : resAll c rs ov w K) :
    ∃ vs, (results fn a.tmps).run c.P w = .ok (resV vs) w ∧ K vs := by
  obtain ⟨vs, hvs, hR⟩ := resAll_sound hc hr.base h
  rw [← hrs] at hvs
  exact ⟨vs, results_run hvs, hR⟩
/-- A call of a function that holds a range over a function does what its statement says. -/
theorem evT_ok {c : Cx} (hc : CxOk c) {f : FuncId} {fn : Func} {code : Code} (hf : c.P.funcs[f]? = some fn) (hb : fn.body = some code) (rs : List ResultVar) (hrs : fn.results.toList = rs) (nt : Nat) (hnt : fn.ntmps = nt) (t : TSk) {args : List Value} (ha : args.length ≤ nt)
    {w : World} {R : Ending → World → Prop} {m o : Prop} (hm : m = evT c nt t code (fin c rs R) (argOv 0 args) w) (ho : o = oblTF c nt t code (fin c rs R) True) (ho' : o) (h : m) : Calls c.P f args.toArray w R := by
  subst hnt
  refine callsIn_wide.1 (callsIn_of_wp_marks (F := FW none) (n := 2) hf hb trivial ?_)
  refine evT_sound hc t code (fin c rs R) _ _ (argOv 0 args) w True (ho ▸ ho') ?_ ?_ (rel_args ha) (hm ▸ h)
  · intro e a ov w hr hq
    have hrd : RelD [] fn.ntmps a ov := hr
    cases e with
    | ret =>
      obtain ⟨vs, hvs, hR⟩ := resAll_runD hc hrd hrs hq
      show LeavesInM _ _ _ _ _ _ a.defers _ _
      rw [hr.1]
      exact ⟨_, hvs, hR⟩
    | normal =>
      obtain ⟨vs, hvs, hR⟩ := resAll_runD hc hrd hrs hq
      show LeavesInM _ _ _ _ _ _ a.defers _ _
      rw [hr.1]
      exact ⟨_, hvs, hR⟩
    | panic ch =>
      show LeavesInM _ _ _ _ _ _ a.defers _ _
      rw [hr.1]
      exact hq
    | exit id => exact hq.elim
    | goto l => exact hq.elim
    | outgrown => exact hq.elim
  · intro D e a ov w hr hq
    obtain ⟨hD, hq⟩ := hq
    have htake := run_takeDeferred (P := c.P) hD
    cases e with
    | ret =>
      obtain ⟨vs, hvs, hR⟩ := resAll_runD hc hr hrs hq
      show LeavesInM _ _ _ _ _ _ a.defers _ _
      rw [hr.1]
      exact ⟨by simp, .inl ⟨D, _, rfl, htake, _, hvs, hR⟩⟩
    | normal =>
      obtain ⟨vs, hvs, hR⟩ := resAll_runD hc hr hrs hq
      show LeavesInM _ _ _ _ _ _ a.defers _ _
      rw [hr.1]
      exact ⟨by simp, .inl ⟨D, _, rfl, htake, _, hvs, hR⟩⟩
    | panic ch =>
      show LeavesInM _ _ _ _ _ _ a.defers _ _
      rw [hr.1]
      exact ⟨by simp, .inl ⟨D, _, rfl, htake, hq⟩⟩
    | exit id => exact hq.elim
    | goto l => exact hq.elim
    | outgrown => exact hq.elim
/-- A call of a function that calls yield does what its statement says. -/
theorem evX_ok {c : Cx} (hc : CxOk c) {f : FuncId} {fn : Func} {code : Code} (hf : c.P.funcs[f]? = some fn) (hb : fn.body = some code) (rs : List ResultVar) (hrs : fn.results.toList = rs) (nt : Nat) (hnt : fn.ntmps = nt) (s : Sk) {args : List Value} (ha : args.length ≤ nt)
    {w : World} {R : Ending → World → Prop} {m o : Prop} (hm : m = evX c nt code s (fin c rs R) (argOv 0 args) w) (ho : o = oblXF c nt code s (fin c rs R) True) (ho' : o) (h : m) : CallsIn Fence.wide 0 c.P f args.toArray w R := by
  subst hnt
  refine (callsIn_wide (n := 0)).2 (callsIn_wide.1 (callsIn_of_wp_marks (F := FW none) (n := 2) hf hb trivial ?_))
  refine evX_sound hc (ds := []) (rd := none) code s (fin c rs R) _ _ (argOv 0 args) w (oblX_of_oblXF _ _ _ _ (ho ▸ ho')).1 ?_ (rel_args ha) (hm ▸ h)
  intro e a ov w hr hq
  cases e with
  | ret =>
    obtain ⟨vs, hvs, hR⟩ := resAll_runD hc hr hrs hq
    show LeavesInM _ _ _ _ _ _ a.defers _ _
    rw [hr.1]
    exact ⟨_, hvs, hR⟩
  | normal =>
    obtain ⟨vs, hvs, hR⟩ := resAll_runD hc hr hrs hq
    show LeavesInM _ _ _ _ _ _ a.defers _ _
    rw [hr.1]
    exact ⟨_, hvs, hR⟩
  | panic ch =>
    show LeavesInM _ _ _ _ _ _ a.defers _ _
    rw [hr.1]
    exact hq
  | exit id => exact hq.elim
  | goto l => exact hq.elim
  | outgrown => exact hq.elim
end Go.Dec
