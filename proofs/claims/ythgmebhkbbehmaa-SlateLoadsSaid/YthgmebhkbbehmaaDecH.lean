/- Loaded code as one computed statement: branches, blocks, loops; that a call does what the statement says. Conditions: none; every theorem is over any program. -/
import Derived.Test.YthgmebhkbbehmaaDecK
namespace Go.Dec
set_option linter.unusedVariables false
set_option linter.unusedSimpArgs false

/-! ### 19. Code -/
/-- Where code is cut, and what is known there. A loop's own continuation is a parameter of what stands inside it. -/
inductive Sk where
  | leaf
  | seq (a b : Sk)
  | cut (sl : List (Nat × Sl)) (K : TF Prop sl) (a b : Sk)
  | cond (a b : Sk)
  | block (a : Sk)
  | loop (sl : List (Nat × Sl)) (K : TF Prop sl) (body : TF Prop sl → Sk)
def Sk.left : Sk → Sk
  | .seq a _ => a
  | .cut _ _ a _ => a
  | .cond a _ => a
  | .block a => a
  | _ => .leaf
def Sk.right : Sk → Sk
  | .seq _ b => b
  | .cut _ _ _ b => b
  | .cond _ b => b
  | _ => .leaf
abbrev Post := Exit → Ov → World → Prop
def thn (next : Ov → World → Prop) (Q : Post) : Post
  | .normal, ov, w => next ov w
  | e, ov, w => Q e ov w
def inBlk (id : Nat) (Q : Post) : Post
  | .exit id', ov, w => cond (Nat.beq id' id) (Q .normal ov w) (Q (.exit id') ov w)
  | e, ov, w => Q e ov w
def noGo (Q : Post) : Post
  | .goto _, _, _ => False
  | e, ov, w => Q e ov w
def seqK (s : Sk) (y : Ov → World → Prop) : Ov → World → Prop :=
  match s with
  | .cut sl K _ _ => tApp sl K
  | _ => y
def evA (c : Cx) (n : Nat) : Code → Sk → Post → Ov → World → Prop
  | .skip, _, Q, ov, w => Q .normal ov w
  | .ret, _, Q, ov, w => Q .ret ov w
  | .exit id, _, Q, ov, w => Q (.exit id) ov w
  | .region _ ops dr, _, Q, ov, w => cond dr
    (cond (Region.lexB .any ops && ops.toList.all (quietB c)) (evQ c n ops.toList (fun ov => ∀ k, Q .normal ov (w.drewN k)) w ops.toList ov)
      (chk (okG ops.toList) (evG c n ops.toList (Q .normal) (fun ch w => Q (.panic ch) [] w) (ops.toList.length + 1) [] [] ov w.drew)))
    (evOps c n ops.toList (Q .normal) (fun ov ch w => Q (.panic ch) ov w) ops.toList ov w)
  | .seq x y, s, Q, ov, w => evA c n x s.left (thn (seqK s (evA c n y s.right Q)) Q) ov w
  | .cond p x y, s, Q, ov, w => opv ov p fun v => dB v fun b => cond b (evA c n x s.left Q ov w) (evA c n y s.right Q ov w)
  | .block id x, s, Q, ov, w => evA c n x s.left (inBlk id Q) ov w
  | .scope x, s, Q, ov, w => evA c n x s.left (noGo Q) ov w
  | .label _, _, Q, ov, w => Q .normal ov w
  | .loop x, .loop sl K _, Q, ov, w => tApp sl K ov w
  | _, _, _, _, _ => False
/-- What is owed at the cuts. -/
def obl (c : Cx) (n : Nat) : Code → Sk → Post → Prop
  | .seq x y, .cut sl K sx sy, Q => obl c n x sx (thn (tApp sl K) Q) ∧ tAll sl K (evA c n y sy Q) [] ∧ obl c n y sy Q
  | .seq x y, s, Q => obl c n x s.left (thn (seqK s (evA c n y s.right Q)) Q) ∧ obl c n y s.right Q
  | .cond _ x y, s, Q => obl c n x s.left Q ∧ obl c n y s.right Q
  | .block id x, s, Q => obl c n x s.left (inBlk id Q)
  | .scope x, s, Q => obl c n x s.left (noGo Q)
  | .loop x, .loop sl K body, Q =>
    tAll sl K (fun ov w => ∃ (I : TF Prop sl) (m : TF Nat sl), tApp sl I ov w ∧ tAllM sl I m (fun k ov w => evA c n x (body (tLt sl I m k)) (thn (tApp sl (tLt sl I m k)) Q) ov w) []) [] ∧
      ∀ C : TF Prop sl, obl c n x (body C) (thn (tApp sl C) Q)
  | _, _, _ => True
/-- Without cuts nothing is owed. -/
def Sk.plain : Code → Sk → Bool
  | .seq x y, .seq a b => Sk.plain x a && Sk.plain y b
  | .seq x y, .leaf => Sk.plain x .leaf && Sk.plain y .leaf
  | .cond _ x y, s => Sk.plain x s.left && Sk.plain y s.right
  | .block _ x, s => Sk.plain x s.left
  | .scope x, s => Sk.plain x s.left
  | .loop _, _ => false
  | .seq _ _, _ => false
  | _, _ => true

def actOv (a : Act) : Ov := (List.range a.tmps.size).filterMap fun i => (a.tmps[i]?).map fun v => (i, v)
theorem get_filterMap (f : Nat → Option Value) : ∀ (l : List Nat) (d : Nat), Ov.get (l.filterMap fun i => (f i).map fun v => (i, v)) d = if d ∈ l then f d else none
  | [], d => by simp [Ov.get]
  | i :: l, d => by
    have ih := get_filterMap f l d
    simp only [List.filterMap_cons]
    cases hf : f i with
    | none =>
      simp only [Option.map_none]
      rw [ih]
      by_cases e : d = i
      · subst e; simp [hf]
      · simp [e]
    | some v =>
      simp only [Option.map_some]
      rw [get_cons, ih]
      by_cases e : i = d
      · subst e; simp [hf]
      · have : d ≠ i := fun h => e h.symm
        simp [e, this]
theorem get_actOv (a : Act) (d : Nat) : (actOv a).get d = a.tmps[d]? := by
  unfold actOv
  rw [get_filterMap]
  by_cases h : d < a.tmps.size
  · simp [h]
  · simp [h]
theorem rel_actOv {n : Nat} {a : Act} (hd : a.defers = []) (hn : a.tmps.size = n) : Rel n a (actOv a) := ⟨hd, hn, fun d v h => by rw [← get_actOv]; exact h⟩
theorem Rel.nil {n : Nat} {a : Act} {ov : Ov} (h : Rel n a ov) : Rel n a [] := ⟨h.1, h.2.1, fun d v h => by simp [Ov.get] at h⟩
def Holds (n : Nat) (Q : Post) (Q' : Exit → Act → World → Prop) : Prop := ∀ e a ov w, Rel n a ov → Q e ov w → Q' e a w
theorem Holds.thn {n : Nat} {Q : Post} {Q' : Exit → Act → World → Prop} (h : Holds n Q Q') {N : Ov → World → Prop} {N' : Act → World → Prop} (hN : ∀ a ov w, Rel n a ov → N ov w → N' a w) : Holds n (Dec.thn N Q) (Exit.then N' Q') := by
  intro e a ov w hr hq
  cases e <;> first | exact hN _ _ _ hr hq | exact h _ _ _ _ hr hq
theorem Holds.inBlk {n : Nat} {Q : Post} {Q' : Exit → Act → World → Prop} (h : Holds n Q Q') (id : Nat) : Holds n (Dec.inBlk id Q) (Exit.inBlock id Q') := by
  intro e a ov w hr hq
  cases e with
  | exit id' =>
    simp only [Dec.inBlk] at hq
    simp only [Exit.inBlock]
    by_cases e : id' = id
    · subst e
      simp only [Nat.beq_refl, cond_true] at hq
      rw [if_pos rfl]
      exact h _ _ _ _ hr hq
    · have : Nat.beq id' id = false := by
        cases hb : Nat.beq id' id with
        | false => rfl
        | true => exact (e (Nat.eq_of_beq_eq_true hb)).elim
      rw [this] at hq
      rw [if_neg e]
      exact h _ _ _ _ hr hq
  | _ => exact h _ _ _ _ hr hq
theorem Holds.noGo {n : Nat} {Q : Post} {Q' : Exit → Act → World → Prop} (h : Holds n Q Q') : Holds n (Dec.noGo Q) (Exit.noGoto Q') := by
  intro e a ov w hr hq
  cases e <;> first | exact hq.elim | exact h _ _ _ _ hr hq

theorem evA_sound {c : Cx} (hc : CxOk c) {n : Nat} : ∀ (x : Code) (s : Sk) (Q : Post) (Q' : Exit → Act → World → Prop) (a : Act) (ov : Ov) (w : World),
    obl c n x s Q → Holds n Q Q' → Rel n a ov → evA c n x s Q ov w → x.wp c.P Q' a w := by
  intro x
  induction x with
  | skip => exact fun s Q Q' a ov w _ hQ hr h => wp_skip (hQ _ _ _ _ hr h)
  | ret => exact fun s Q Q' a ov w _ hQ hr h => wp_ret (hQ _ _ _ _ hr h)
  | exit id => exact fun s Q Q' a ov w _ hQ hr h => wp_exit (hQ _ _ _ _ hr h)
  | label l => exact fun s Q Q' a ov w _ hQ hr h => wp_label (hQ _ _ _ _ hr h)
  | goto l => exact fun s Q Q' a ov w _ hQ hr h => h.elim
  | refuse m => exact fun s Q Q' a ov w _ hQ hr h => h.elim
  | rangeFunc f ps as bd => exact fun s Q Q' a ov w _ hQ hr h => h.elim
  | region id ops dr =>
    intro s Q Q' a ov w _ hQ hr h
    cases dr with
    | false =>
      refine wp_region_list ?_
      have := evOps_sound hc (ops := ops.toList) (Q := Q .normal) (X := fun ov ch w => Q (.panic ch) ov w) (Q' := Q') (fun a ov w hr h => hQ _ _ _ _ hr h) (fun a ov ch w hr h => hQ _ _ _ _ hr h) ops.toList a ov w hr h
      simpa using this
    | true =>
      cases hB : Region.lexB .any ops && ops.toList.all (quietB c) with
      | false =>
        have h : cond (Region.lexB .any ops && ops.toList.all (quietB c)) _ (chk (okG ops.toList) (evG c n ops.toList (Q .normal) (fun ch w => Q (.panic ch) [] w) (ops.toList.length + 1) [] [] ov w.drew)) := h
        rw [hB] at h
        obtain ⟨hok, h⟩ := chk_inv h
        refine wp_region_any hc.mixed ?_
        refine evG_sound hc hok (Q := Q .normal) (X := fun ch w => Q (.panic ch) [] w) (Q' := Q') (fun a ov w hr h => hQ _ _ _ _ hr h) (fun a ch w hr h => hQ _ _ _ _ hr h) ops.size _ [] [] ov a a (Array.replicate ops.size false) _ ?_ ?_ h
        · refine ⟨hr, hr.1, hr.2.1, by simp, ?_, trivial, ?_, ?_, ?_, fun d _ => rfl, fun i hi => (by cases hi)⟩
          · intro i hi
            rw [Array.getElem?_replicate] at hi
            split at hi <;> simp at hi
          · intro i hi
            rw [Array.getElem?_replicate] at hi
            split at hi <;> simp at hi
          · intro i hi; cases hi
          · intro i hi; cases hi
        · simp
      | true =>
      have h : cond (Region.lexB .any ops && ops.toList.all (quietB c)) (evQ c n ops.toList (fun ov => ∀ k, Q .normal ov (w.drewN k)) w ops.toList ov) _ := h
      rw [hB] at h
      have hB : Region.lexB .any ops = true := (Bool.and_eq_true_iff.1 hB).1
      have h : evQ c n ops.toList (fun ov => ∀ k, Q .normal ov (w.drewN k)) w ops.toList ov := h
      have := evQ_sound hc (ops := ops.toList) (Q := fun ov => ∀ k, Q .normal ov (w.drewN k)) (w := w) (Q' := fun a' => ∀ w', (∃ n, w' = w.drewN n) → Q' .normal a' w') (fun a ov hr h w' ⟨k, hk⟩ => by subst hk; exact hQ _ _ _ _ hr (h k)) ops.toList a ov hr h
      have h2 := wp_region_quiet_lit (id := id) (Q := Q') (a := a) (w := w) (l := ops.toList) hc.mixed (by simpa using hB) this
      simpa using h2
  | seq x y ihx ihy =>
    intro s Q Q' a ov w ho hQ hr h
    refine wp_seq ?_
    cases s with
    | cut sl K sx sy =>
      obtain ⟨ho1, ho2, ho3⟩ := ho
      refine ihx sx (thn (tApp sl K) Q) _ a ov w ho1 (hQ.thn fun a' ov' w' hr' hk => ?_) hr h
      obtain ⟨ov2, hr2, h2⟩ := tAll_use hr' hr'.nil ho2 hk
      exact ihy sy Q Q' a' ov2 w' ho3 hQ hr2 h2
    | _ =>
      obtain ⟨ho1, ho2⟩ := ho
      exact ihx _ _ _ a ov w ho1 (hQ.thn fun a' ov' w' hr' hk => ihy _ Q Q' a' ov' w' ho2 hQ hr' hk) hr h
  | cond p x y ihx ihy =>
    intro s Q Q' a ov w ho hQ hr h
    obtain ⟨b, hb, h⟩ := dB_inv (opv_inv hr h)
    refine wp_cond hb ?_
    cases b with
    | true => exact ihx s.left Q Q' a ov w ho.1 hQ hr h
    | false => exact ihy s.right Q Q' a ov w ho.2 hQ hr h
  | block id x ih =>
    intro s Q Q' a ov w ho hQ hr h
    exact wp_block (ih s.left _ _ a ov w ho (hQ.inBlk id) hr h)
  | scope x ih =>
    intro s Q Q' a ov w ho hQ hr h
    exact wp_scope_straight (ih s.left _ _ a ov w ho hQ.noGo hr h)
  | loop x ih =>
    intro s Q Q' a ov w ho hQ hr h
    cases s with
    | loop sl K body =>
      obtain ⟨ho1, ho2⟩ := ho
      obtain ⟨ov1, hr1, I, m, hI, hround⟩ := tAll_use hr hr.nil ho1 h
      have hmore : ∀ {a : Act} {ov : Ov}, Rel n a ov → ∀ d v, ov.get d = some v → (actOv a).get d = some v := fun hr d v h => by rw [get_actOv]; exact hr.2.2 d v h
      refine wp_loop (fun a w => a.defers = [] ∧ a.tmps.size = n ∧ tApp sl I (actOv a) w) (fun a w => tNum sl m (actOv a) w) ⟨hr1.1, hr1.2.1, (tApp_more (hmore hr1) hI).1⟩ ?_
      rintro a' w' ⟨hd, hn, hI'⟩
      have hra := rel_actOv hd hn
      obtain ⟨ov2, hr2, h2⟩ := tAllM_use hra hra.nil hround hI'
      refine ih _ _ _ a' ov2 w' (ho2 _) (hQ.thn fun a3 ov3 w3 hr3 h3 => ?_) hr2 h2
      obtain ⟨h4, h5⟩ := tApp_tLt h3
      obtain ⟨h6, h7⟩ := tApp_more (hmore hr3) h4
      exact ⟨⟨hr3.1, hr3.2.1, h6⟩, by rw [← h7 m]; exact h5⟩
    | _ => exact h.elim

/-! ### 20. Calls -/
def resOne (c : Cx) (r : ResultVar) (ov : Ov) (w : World) (K : Value → Prop) : Prop :=
  match r with
  | .tmp t => optP (ov.get t) K
  | .cell a t => optP (ov.get a) fun p => ldP c t p w K
def resAll (c : Cx) : List ResultVar → Ov → World → (List Value → Prop) → Prop
  | [], _, _, K => K []
  | r :: l, ov, w, K => resOne c r ov w fun v => resAll c l ov w fun vs => K (v :: vs)
def resV : List Value → Value
  | [v] => v
  | vs => .tuple vs.toArray
def fin (c : Cx) (rs : List ResultVar) (R : Ending → World → Prop) : Post
  | .ret, ov, w => resAll c rs ov w fun vs => R (.returned (resV vs)) w
  | .normal, ov, w => resAll c rs ov w fun vs => R (.returned (resV vs)) w
  | .panic ch, ov, w => R (.panicked ch) w
  | _, _, _ => False
def resSem (tmps : Array Value) (r : ResultVar) : Sem Value :=
  match r with
  | .tmp t => pure (tmps.getD t undef)
  | .cell a t => do loadVar t (← asAddr (tmps.getD a undef))
theorem resOne_sound {c : Cx} (hc : CxOk c) {n : Nat} {a : Act} {ov : Ov} (hr : Rel n a ov) {r : ResultVar} {w : World} {K : Value → Prop} (h : resOne c r ov w K) :
    ∃ v, (resSem a.tmps r).run c.P w = .ok v w ∧ K v := by
  cases r with
  | tmp t =>
    obtain ⟨v, hv, h⟩ := optP_inv h
    have := hr.2.2 t v hv
    exact ⟨v, by simp [resSem, this], h⟩
  | cell p t =>
    obtain ⟨q, hq, h⟩ := optP_inv h
    have hp := hr.2.2 p q hq
    obtain ⟨v, hv, h⟩ := ldP_sound hc h
    refine ⟨v, ?_, h⟩
    have h2 := hv w rfl
    have hg : a.tmps.getD p undef = q := by simp [hp]
    simp only [resSem]
    rw [hg]
    cases q with
    | pointer o =>
      cases o with
      | some b =>
        unfold Instr.loadAt at h2
        simpa [asAddr, Instr.sureAddr] using h2
      | none => simp [Instr.loadAt, Instr.sureAddr, stuck] at h2
    | _ => simp [Instr.loadAt, Instr.sureAddr, stuck] at h2
theorem resAll_sound {c : Cx} (hc : CxOk c) {n : Nat} {a : Act} {ov : Ov} (hr : Rel n a ov) {w : World} : ∀ {rs : List ResultVar} {K : List Value → Prop}, resAll c rs ov w K →
    ∃ vs, (rs.mapM (resSem a.tmps)).run c.P w = .ok vs w ∧ K vs
  | [], K, h => ⟨[], by simp, h⟩
  | r :: l, K, h => by
    obtain ⟨v, hv, h⟩ := resOne_sound hc hr h
    obtain ⟨vs, hvs, h⟩ := resAll_sound hc hr (rs := l) h
    refine ⟨v :: vs, ?_, h⟩
    rw [List.mapM_cons, Sem.run_bind, hv, Result.andThen_ok, Sem.run_bind, hvs]
    rfl
theorem results_run {c : Cx} {fn : Func} {tmps : Array Value} {w : World} {vs : List Value}
    (h : (fn.results.toList.mapM (resSem tmps)).run c.P w = .ok vs w) :
    (results fn tmps).run c.P w = .ok (resV vs) w := by
  have e : results fn tmps = (do
      let vs ← fn.results.mapM (resSem tmps)
      pure (if h : vs.size = 1 then vs[0] else .tuple vs)) := rfl
  rw [e, Sem.run_bind, Array.mapM_eq_mapM_toList, Sem.run_map, h]
  simp only [Result.andThen_ok, Sem.run_pure]
  congr 1
  match vs with
  | [] => rfl
  | [v] => rfl
  | v :: u :: r => rfl
def argOv : Nat → List Value → Ov
  | _, [] => []
  | k, v :: r => (k, v) :: argOv (k + 1) r
theorem get_argOv : ∀ (l : List Value) (k d : Nat) (v : Value), (argOv k l).get d = some v → k ≤ d ∧ l[d - k]? = some v
  | [], k, d, v, h => by simp [argOv, Ov.get] at h
  | u :: r, k, d, v, h => by
    simp only [argOv] at h
    rw [get_cons] at h
    by_cases e : k = d
    · subst e
      rw [if_pos rfl] at h
      simpa using h
    · rw [if_neg e] at h
      obtain ⟨h1, h2⟩ := get_argOv r (k + 1) d v h
      refine ⟨by omega, ?_⟩
      rw [show d - k = (d - (k + 1)) + 1 by omega]
      simpa using h2
theorem ev_calls {c : Cx} (hc : CxOk c) {f : FuncId} {fn : Func} {code : Code} (hf : c.P.funcs[f]? = some fn) (hb : fn.body = some code) (rs : List ResultVar) (hrs : fn.results.toList = rs) (nt : Nat) (hnt : fn.ntmps = nt) (s : Sk) {args : List Value} (ha : args.length ≤ nt)
    {w : World} {R : Ending → World → Prop} (ho : obl c nt code s (fin c rs R)) (h : evA c nt code s (fin c rs R) (argOv 0 args) w) : Calls c.P f args.toArray w R := by
  subst hnt
  refine calls_of_wp hf hb ?_
  refine evA_sound hc code s (fin c rs R) _ _ (argOv 0 args) w ho ?_ ?_ h
  · intro e a ov w hr hq
    cases e with
    | ret =>
      obtain ⟨vs, hvs, hR⟩ := resAll_sound hc hr hq
      rw [← hrs] at hvs
      exact ⟨hr.1, _, results_run hvs, hR⟩
    | normal =>
      obtain ⟨vs, hvs, hR⟩ := resAll_sound hc hr hq
      rw [← hrs] at hvs
      exact ⟨hr.1, _, results_run hvs, hR⟩
    | panic ch => exact ⟨hr.1, hq⟩
    | exit id => exact hq.elim
    | goto l => exact hq.elim
    | outgrown => exact hq.elim
  · refine ⟨rfl, by simp; omega, fun d v hd => ?_⟩
    obtain ⟨_, h2⟩ := get_argOv args 0 d v hd
    rw [Nat.sub_zero] at h2
    rw [Array.getElem?_append]
    have : d < args.toArray.size := by
      simp
      exact (List.getElem?_eq_some_iff.1 h2).1
    rw [if_pos this]
    simpa using h2

/-! ### 21. What is owed, as one row -/
def oblF (c : Cx) (n : Nat) : Code → Sk → Post → Prop → Prop
  | .seq x y, .cut sl K sx sy, Q, r => oblF c n x sx (thn (tApp sl K) Q) (tAll sl K (evA c n y sy Q) [] ∧ oblF c n y sy Q r)
  | .seq x y, s, Q, r => oblF c n x s.left (thn (seqK s (evA c n y s.right Q)) Q) (oblF c n y s.right Q r)
  | .cond _ x y, s, Q, r => oblF c n x s.left Q (oblF c n y s.right Q r)
  | .block id x, s, Q, r => oblF c n x s.left (inBlk id Q) r
  | .scope x, s, Q, r => oblF c n x s.left (noGo Q) r
  | .loop x, .loop sl K body, Q, r =>
    tAll sl K (fun ov w => ∃ (I : TF Prop sl) (m : TF Nat sl), tApp sl I ov w ∧ tAllM sl I m (fun k ov w => evA c n x (body (tLt sl I m k)) (thn (tApp sl (tLt sl I m k)) Q) ov w) []) [] ∧
      (∀ C : TF Prop sl, oblF c n x (body C) (thn (tApp sl C) Q) True) ∧ r
  | _, _, _, r => r
theorem obl_of_oblF {c : Cx} {n : Nat} : ∀ (x : Code) (s : Sk) (Q : Post) (r : Prop), oblF c n x s Q r → obl c n x s Q ∧ r := by
  intro x
  induction x with
  | seq x y ihx ihy =>
    intro s Q r h
    cases s with
    | cut sl K sx sy =>
      obtain ⟨h1, h2, h3⟩ := ihx _ _ _ h
      obtain ⟨h4, h5⟩ := ihy _ _ _ h3
      exact ⟨⟨h1, h2, h4⟩, h5⟩
    | _ =>
      obtain ⟨h1, h2⟩ := ihx _ _ _ h
      obtain ⟨h4, h5⟩ := ihy _ _ _ h2
      exact ⟨⟨h1, h4⟩, h5⟩
  | cond p x y ihx ihy =>
    intro s Q r h
    obtain ⟨h1, h2⟩ := ihx _ _ _ h
    obtain ⟨h4, h5⟩ := ihy _ _ _ h2
    exact ⟨⟨h1, h4⟩, h5⟩
  | block id x ih => exact fun s Q r h => ih _ _ _ h
  | scope x ih => exact fun s Q r h => ih _ _ _ h
  | loop x ih =>
    intro s Q r h
    cases s with
    | loop sl K body =>
      obtain ⟨h1, h2, h3⟩ := h
      exact ⟨⟨h1, fun C => (ih _ _ _ (h2 C)).1⟩, h3⟩
    | _ => exact ⟨trivial, h⟩
  | _ => exact fun s Q r h => ⟨trivial, h⟩
/-- A call does what its statement says: 'm' is the statement as it is printed, 'o' what is owed as it is printed. -/
theorem ev_ok {c : Cx} (hc : CxOk c) {f : FuncId} {fn : Func} {code : Code} (hf : c.P.funcs[f]? = some fn) (hb : fn.body = some code) (rs : List ResultVar) (hrs : fn.results.toList = rs) (nt : Nat) (hnt : fn.ntmps = nt) (s : Sk) {args : List Value} (ha : args.length ≤ nt)
    {w : World} {R : Ending → World → Prop} {m o : Prop} (hm : m = evA c nt code s (fin c rs R) (argOv 0 args) w) (ho : o = oblF c nt code s (fin c rs R) True) (ho' : o) (h : m) : Calls c.P f args.toArray w R :=
  ev_calls hc hf hb rs hrs nt hnt s ha (obl_of_oblF _ _ _ _ (ho ▸ ho')).1 (hm ▸ h)
/-- A call of which nothing is owed. -/
theorem tabOk_of {P : Program} {tb : List (Option TI)} (h : TabOk P 0 tb) : TabOk P 0 tb := h
def FnOk (P : Program) (f : Nat) : Prop := ∃ fn, P.funcs[f]? = some fn ∧ (fn.name == "runtime.NumGoroutine") = false ∧ fn.body.isNone = false
def FnsOk (P : Program) : List Nat → Prop
  | [] => True
  | f :: r => FnOk P f ∧ FnsOk P r
theorem fnsOk_use {P : Program} : ∀ {l : List Nat}, FnsOk P l → ∀ f, f ∈ l → FnOk P f
  | g :: r, h, f, hf => by
    rcases List.mem_cons.1 hf with rfl | hf
    · exact h.1
    · exact fnsOk_use h.2 f hf
end Go.Dec
