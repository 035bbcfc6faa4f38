/-
  The law BasinPlays: the walk.
-/
import Derived.Test.YticdeknmeafjcaaBasinJ
namespace Go.Proofs.Yticdeknmeafjcaa.G
open Go.Dec Go.RowKit
set_option linter.unusedVariables false
set_option linter.unusedSimpArgs false

/-! ### Plain facts -/
theorem spend_fresh {d : Dev} (h : Fresh d) : Fresh (spend d) := by
  obtain ⟨h1, h2, h3⟩ := spend_same d
  unfold Fresh
  rw [h1, h2, h3]
  exact h
theorem put1_fresh {d : Dev} (h : Fresh d) (i : Int) (s : List Int) : Fresh (put1 d i s) := by
  unfold Fresh put1
  dsimp only
  rw [setAll_push, h]
theorem putAll_facts : ∀ (ws : List (Int × List Int)) (d : Dev), Fresh d → Fresh (putAll d ws).1 ∧ (putAll d ws).1.now.length = d.now.length ∧ (putAll d ws).1.loose.length ≤ d.loose.length + ws.length
  | [], d, h => ⟨h, rfl, Nat.le_refl _⟩
  | x :: r, d, h => by
    obtain ⟨h1, h2, h3⟩ := spend_same d
    unfold putAll
    split
    · exact ⟨spend_fresh h, by rw [h2], by rw [h3]; omega⟩
    · obtain ⟨k1, k2, k3⟩ := putAll_facts r (put1 (spend d) x.1 x.2) (put1_fresh (spend_fresh h) _ _)
      refine ⟨k1, ?_, ?_⟩
      · rw [k2]; simp only [put1, List.length_set]; rw [h2]
      · simp only [put1, List.length_append, List.length_cons, List.length_nil, h3] at k3 ⊢
        omega
theorem Put_facts (ws : List (Int × List Int)) (d : Dev) (h : Fresh d) : Fresh (Put d ws).1 ∧ (Put d ws).1.now.length = d.now.length ∧ (Put d ws).1.loose.length ≤ d.loose.length + ws.length := by
  unfold Put
  split
  · exact ⟨h, rfl, by dsimp only; omega⟩
  · split
    · exact ⟨h, rfl, by dsimp only; omega⟩
    · split
      · exact ⟨h, rfl, by dsimp only; omega⟩
      · exact putAll_facts ws d h
theorem flush_facts (d : Dev) (h : Fresh d) : Fresh (flush d).1 ∧ (flush d).1.now.length = d.now.length ∧ (flush d).1.loose.length ≤ d.loose.length := by
  obtain ⟨h1, h2, h3⟩ := spend_same d
  unfold flush
  split
  · exact ⟨h, rfl, Nat.le_refl _⟩
  · split
    · exact ⟨spend_fresh h, by rw [h2], by rw [h3]; omega⟩
    · exact ⟨by unfold Fresh; dsimp only; rw [h2]; rfl, by dsimp only; rw [h2], by simp⟩
theorem settle_len (keep : List Int) : ∀ (l : List (Int × List Int)) (s : List (List Int)) (k : Int), (settle keep s l k).length = s.length
  | [], s, k => rfl
  | x :: r, s, k => by
    rw [settle_cons, settle_len keep r]
    split
    · rw [List.length_set]
    · rfl
theorem crash_facts (keep : List Int) (d : Dev) (hg : Good d) : Fresh (crash keep d) ∧ (crash keep d).now.length = d.now.length ∧ (crash keep d).loose.length ≤ d.loose.length :=
  ⟨rfl, by show (settle keep d.sure d.loose 0).length = _; rw [settle_len, hg.len], Nat.zero_le _⟩
def val (d : Dev) (i : Int) : List Int := if got d i = 0 then (d.now[i.toNat]?).getD [] else []

/-! ### Both devices -/
theorem get_dev {w : World} {B pd : Nat} {d : Dev} {D : Nat → Prop} (h : DevIs w B pd d D) (hg : Good d) (i : Int) : basin_Basin_Get.C (some ⟨pd, 0, none⟩) i w (Ret fun v w' => Ex w w' ∧ ∃ p n c, v = .tuple #[.slice p n c, .int .i64 (got d i)] ∧ (val d i).length = n ∧ CellsO w' p (u8s (val d i)) ∧ ∀ x ∈ val d i, 0 ≤ x ∧ x < 256) := by
  refine Calls.mono (Get_spec h hg i) ?_
  rintro e w' ⟨v, rfl, hx, hv⟩
  refine ⟨v, rfl, hx, ?_⟩
  unfold val
  rcases hv with ⟨hv, rfl⟩ | ⟨h0, p', c', s, hs, rfl, o⟩
  · rw [if_neg hv]
    exact ⟨none, 0, 0, rfl, rfl, rfl, fun x hx => by cases hx⟩
  · rw [if_pos h0, hs]
    have hS := hg.now s (List.mem_of_getElem? hs)
    exact ⟨p', 64, c', by rw [h0], hS.1, o.cells, hS.2⟩
theorem get_ref {w : World} {B pr : Nat} {d : Dev} {D : Nat → Prop} (h : Ref w B pr d D) (hg : Good d) (hf : Fresh d) (hcnt : d.loose.length ≤ 1000000000000) (i : Int) : stopcockref05_Basin_Get.C (some ⟨pr, 0, none⟩) i w (Ret fun v w' => w' = w ∧ v = .tuple #[str (val d i), .int .i64 (got d i)]) := by
  refine Calls.mono (GetR_spec h hg hf hcnt i) ?_
  rintro e w' ⟨v, rfl, hx, s, rfl, hs⟩
  refine ⟨_, rfl, hx, ?_⟩
  unfold val
  rcases hs with ⟨h0, rfl⟩ | ⟨h0, h1⟩
  · rw [if_neg h0]
  · rw [if_pos h0, h1]; rfl
def Two (w0 w : World) (pd pr : Nat) (d : Dev) : Prop := ∃ D E, DevIs w w0.heap.size pd d D ∧ Good d ∧ Fresh d ∧ Ref w w0.heap.size pr d E ∧ Ex w0 w
theorem dev_ref {w w' : World} {B pd pr : Nat} {d d' : Dev} {D E : Nat → Prop} (h : DevIs w B pd d D) (r : Ref w B pr d' E) (k : Kp w w' D) : Ref w' B pr d' E :=
  r.kp k fun i hi hd => by
    rcases (r.typed hi).1 with a | a | a <;> rcases (h.typed hd).1 with b | b | b <;> exact a.ne b (by decide) rfl
theorem ref_dev {w w' : World} {B pd pr : Nat} {d d' : Dev} {D E : Nat → Prop} (h : DevIs w B pd d D) (r : Ref w B pr d' E) (k : Kp w w' E) : DevIs w' B pd d D :=
  h.kp k fun i hi hd => by
    rcases (h.typed hi).1 with a | a | a <;> rcases (r.typed hd).1 with b | b | b <;> exact a.ne b (by decide) rfl
theorem Two.ex {w0 w w' : World} {pd pr : Nat} {d : Dev} (h : Two w0 w pd pr d) (x : Ex w w') : Two w0 w' pd pr d := by
  obtain ⟨D, E, h1, hg, hf, h2, X⟩ := h
  exact ⟨D, E, h1.ex x, hg, hf, h2.ex x, X.trans x⟩

/-! ### One call -/
abbrev RR2 (w0 : World) : Ending → World → Prop := Ret fun v w' => v = .bool true ∧ Ex w0 w'
theorem k3_spec {w0 w : World} {pd pr : Nat} {d : Dev} (h : Two w0 w pd pr d) {x t0 : Int} {p : Option Addr} {m c : Nat} {t8 t64 : Int} {t65 : Bool} {C1 : Int → Option Addr → Nat → Nat → Option Addr → Option Addr → Int → World → Prop}
    (hC : ∀ w', Two w0 w' pd pr d → C1 t0 p m c (some ⟨pd, 0, none⟩) (some ⟨pr, 0, none⟩) (IntKind.i64.wrap (t8 + 1)) w') :
    stopcocklaw05_BasinPlays.k3 t0 p m c (some ⟨pd, 0, none⟩) (some ⟨pr, 0, none⟩) t8 x x t64 t65 w (RR2 w0) C1 := by
  unfold stopcocklaw05_BasinPlays.k3
  have h' := h.ex (Ex.drew w)
  clear h
  generalize w.drew = w1 at h' ⊢
  rw [cond_neg (by simp)]
  have h0 := h'
  obtain ⟨D, E, h1, hg, hf, ⟨left, ps, pl, cs, cl, _, h2, _⟩, X⟩ := h0
  try dsimp only [dI_i64, dI_u8, dI_u16, dI_u32, dB_bool, dS_slice, dP_ptr, dT_tup, dA_agg, dStr_str, dF_f, dC_c, dM_m, optP_some, ga0, ga1, ga2, ga3, ga4, cond_true, cond_false, chk_true, Bool.not_true, Bool.not_false, Option.isNone_none, Option.isNone_some, List.toList_toArray]
  simp only [addr1]
  refine ⟨_, _, _, h2.cell.at (j := 1) rfl, ?_⟩
  refine callP.use (Loose_spec h1) ?_
  rintro _ w2 ⟨rfl, rfl⟩
  try dsimp only [dI_i64, dI_u8, dI_u16, dI_u32, dB_bool, dS_slice, dP_ptr, dT_tup, dA_agg, dStr_str, dF_f, dC_c, dM_m, optP_some, ga0, ga1, ga2, ga3, ga4, cond_true, cond_false, chk_true, Bool.not_true, Bool.not_false, Option.isNone_none, Option.isNone_some, List.toList_toArray]
  refine ⟨h2.cell.at (j := 1) rfl, ?_⟩
  rw [cond_neg (by simp)]
  exact hC _ h'

theorem k2_spec {w0 w : World} {pd pr : Nat} {d : Dev} (h : Two w0 w pd pr d) (hcnt : d.loose.length ≤ 70000000) {b : Nat} {what N : Int} {lp : Option Addr} {ln lc : Nat} {ws : List Wt} {kp : Option Addr} {kn kc : Nat} {keep : List Int}
    (hN : N ≤ 9223372036854775807) (o : Own w w0.heap.size 46 4 (some ⟨b, 0, none⟩) 1 1 [.int .i64 what, .int .i64 N, .slice lp ln lc, .slice kp kn kc])
    (hln : ws.length = ln) (hlm : ln ≤ 1048576) (hl : CellsO w0 lp (ws.map Wt.cells).flatten) (hw : ∀ x ∈ ws, CellsO w0 x.p (u8s x.bs) ∧ x.bs.length = x.n ∧ ∀ b ∈ x.bs, 0 ≤ b ∧ b < 256)
    (hkn : keep.length = kn) (hkm : kn ≤ 1048576) (hk : CellsO w0 kp (keep.map (Value.int .i64)))
    {t0 : Int} {p : Option Addr} {m c : Nat} {t8 t64 t74 : Int} {t65 t83 : Bool} {C1 : Int → Option Addr → Nat → Nat → Option Addr → Option Addr → Int → World → Prop}
    (hC : ∀ w' d', Two w0 w' pd pr d' → d'.now.length = d.now.length → d'.loose.length ≤ d.loose.length + 1048576 → C1 t0 p m c (some ⟨pd, 0, none⟩) (some ⟨pr, 0, none⟩) (IntKind.i64.wrap (t8 + 1)) w') :
    stopcocklaw05_BasinPlays.k2 t0 p m c (some ⟨pd, 0, none⟩) (some ⟨pr, 0, none⟩) t8 b 0 0 t64 t65 t74 t83 w (RR2 w0) C1 := by
  unfold stopcocklaw05_BasinPlays.k2
  obtain ⟨D, E, hd, hg, hf, hr, X⟩ := h
  have gD : ∀ i, D i → w0.heap.size ≤ i := fun i hi => (hd.typed hi).2.1
  refine cond_of (fun _ => ?_) (fun _ => ?_)
  · -- Put
    refine ⟨_, _, _, o.at (j := 2) rfl, ?_⟩
    refine callP.use (Put_spec hd hg X.size (ws := ws) hln (CellsK.of_ex hl X gD) (fun x hx => ⟨CellsK.of_ex (hw x hx).1 X gD, (hw x hx).2.1, (hw x hx).2.2⟩) (by omega) (by omega)) ?_
    rintro _ w1 ⟨rfl, D1, h1, hg1, k1, hD1⟩
    try dsimp only [dI_i64, dI_u8, dI_u16, dI_u32, dB_bool, dS_slice, dP_ptr, dT_tup, dA_agg, dStr_str, dF_f, dC_c, dM_m, optP_some, ga0, ga1, ga2, ga3, ga4, cond_true, cond_false, chk_true, Bool.not_true, Bool.not_false, Option.isNone_none, Option.isNone_some, List.toList_toArray]
    have o1 := off_dev hd k1 o (by decide) (by decide) (by decide)
    have r1 := dev_ref hd hr k1
    have X1 := X.then k1 gD
    have gE : ∀ i, E i → w0.heap.size ≤ i := fun i hi => (hr.typed hi).2.1
    refine ⟨_, _, _, o1.at (j := 2) rfl, ?_⟩
    refine callP.use (PutR_spec r1 hg X1.size (ws := ws) hln (CellsK.of_ex hl X1 gE) (fun x hx => ⟨CellsK.of_ex (hw x hx).1 X1 gE, (hw x hx).2.1, (hw x hx).2.2⟩) (by omega) (by omega)) ?_
    rintro _ w2 ⟨rfl, E2, r2, k2, hE2⟩
    try dsimp only [dI_i64, dI_u8, dI_u16, dI_u32, dB_bool, dS_slice, dP_ptr, dT_tup, dA_agg, dStr_str, dF_f, dC_c, dM_m, optP_some, ga0, ga1, ga2, ga3, ga4, cond_true, cond_false, chk_true, Bool.not_true, Bool.not_false, Option.isNone_none, Option.isNone_some, List.toList_toArray]
    obtain ⟨f1, f2, f3⟩ := Put_facts (ws.map Wt.plain) d hf
    exact k3_spec ⟨D1, E2, ref_dev h1 r1 k2, hg1, f1, r2, X1.then k2 gE⟩ fun w' h' => hC w' _ h' f2 (by rw [List.length_map] at f3; omega)
  refine cond_of (fun _ => ?_) (fun _ => ?_)
  · -- Get
    refine ⟨_, o.at (j := 1) rfl, ?_⟩
    refine callP.use (get_dev hd hg N) ?_
    rintro _ w1 ⟨x1, p5, n3, c3, rfl, hlen, hcs, hby⟩
    try dsimp only [dI_i64, dI_u8, dI_u16, dI_u32, dB_bool, dS_slice, dP_ptr, dT_tup, dA_agg, dStr_str, dF_f, dC_c, dM_m, optP_some, ga0, ga1, ga2, ga3, ga4, cond_true, cond_false, chk_true, Bool.not_true, Bool.not_false, Option.isNone_none, Option.isNone_some, List.toList_toArray]
    refine ⟨_, (o.ex x1).at (j := 1) rfl, ?_⟩
    refine callP.use (get_ref (hr.ex x1) hg hf (by omega) N) ?_
    rintro _ w2 ⟨rfl, rfl⟩
    unfold str
    try dsimp only [dI_i64, dI_u8, dI_u16, dI_u32, dB_bool, dS_slice, dP_ptr, dT_tup, dA_agg, dStr_str, dF_f, dC_c, dM_m, optP_some, ga0, ga1, ga2, ga3, ga4, cond_true, cond_false, chk_true, Bool.not_true, Bool.not_false, Option.isNone_none, Option.isNone_some, List.toList_toArray]
    refine ⟨val d N, hlen, hcs, ?_⟩
    rw [strOf_eq hby hby, cond_neg (by simp)]
    exact k3_spec ⟨D, E, hd.ex x1, hg, hf, hr.ex x1, X.trans x1⟩ fun w' h' => hC w' _ h' rfl (by omega)
  refine cond_of (fun _ => ?_) (fun _ => ?_)
  · -- Flush
    refine callP.use (Flush_spec hd hg) ?_
    rintro _ w1 ⟨rfl, D1, h1, hg1, k1, hD1⟩
    try dsimp only [dI_i64, dI_u8, dI_u16, dI_u32, dB_bool, dS_slice, dP_ptr, dT_tup, dA_agg, dStr_str, dF_f, dC_c, dM_m, optP_some, ga0, ga1, ga2, ga3, ga4, cond_true, cond_false, chk_true, Bool.not_true, Bool.not_false, Option.isNone_none, Option.isNone_some, List.toList_toArray]
    have r1 := dev_ref hd hr k1
    have X1 := X.then k1 gD
    have gE : ∀ i, E i → w0.heap.size ≤ i := fun i hi => (hr.typed hi).2.1
    refine callP.use (FlushR_spec r1 hg hf (by omega)) ?_
    rintro _ w2 ⟨rfl, E2, r2, k2, hE2⟩
    try dsimp only [dI_i64, dI_u8, dI_u16, dI_u32, dB_bool, dS_slice, dP_ptr, dT_tup, dA_agg, dStr_str, dF_f, dC_c, dM_m, optP_some, ga0, ga1, ga2, ga3, ga4, cond_true, cond_false, chk_true, Bool.not_true, Bool.not_false, Option.isNone_none, Option.isNone_some, List.toList_toArray]
    obtain ⟨f1, f2, f3⟩ := flush_facts d hf
    exact k3_spec ⟨D1, E2, ref_dev h1 r1 k2, hg1, f1, r2, X1.then k2 gE⟩ fun w' h' => hC w' _ h' f2 (by omega)
  refine cond_of (fun _ => ?_) (fun _ => ?_)
  · -- Fail
    refine ⟨_, o.at (j := 1) rfl, ?_⟩
    refine callP.use (Fail_spec hd N) ?_
    rintro _ w1 ⟨rfl, h1, k1⟩
    try dsimp only [dI_i64, dI_u8, dI_u16, dI_u32, dB_bool, dS_slice, dP_ptr, dT_tup, dA_agg, dStr_str, dF_f, dC_c, dM_m, optP_some, ga0, ga1, ga2, ga3, ga4, cond_true, cond_false, chk_true, Bool.not_true, Bool.not_false, Option.isNone_none, Option.isNone_some, List.toList_toArray]
    have o1 := off_dev hd k1 o (by decide) (by decide) (by decide)
    have r1 := dev_ref hd hr k1
    have X1 := X.then k1 gD
    have gE : ∀ i, E i → w0.heap.size ≤ i := fun i hi => (hr.typed hi).2.1
    refine ⟨_, o1.at (j := 1) rfl, ?_⟩
    have r1' := r1
    obtain ⟨left, ps, pl, cs, cl, hlf, r1, hE⟩ := r1
    simp only [addr1]
    refine r1.cell.put1 (j := 2) (by show 2 < 1 * 4; omega) rfl fun w2 k2 o2 => ?_
    have r2 := r1.field k2 { d with after := max2 N (-1) } rfl rfl rfl o2
    have k2 : Kp w1 w2 E := k2.mono fun i _ hi => (hE i).2 (.inl hi)
    have hgd : Good { d with after := max2 N (-1) } := ⟨hg.len, hg.few, hg.sure, hg.now, hg.loose, by dsimp only; unfold max2; split <;> omega⟩
    exact k3_spec (d := { d with after := max2 N (-1) }) ⟨D, E, ref_dev h1 r1' k2, hgd, hf, ⟨N, ps, pl, cs, cl, ⟨rfl, hN⟩, r2, hE⟩, X1.then k2 gE⟩ fun w' h' => hC w' _ h' rfl (by dsimp only; omega)
  · -- Crash
    refine ⟨_, _, _, o.at (j := 3) rfl, ?_⟩
    refine callP.use (Crash_spec hd hg (CellsK.of_ex hk X gD) hkn (by omega) (by omega)) ?_
    rintro _ w1 ⟨rfl, D1, h1, hg1, k1, hD1⟩
    try dsimp only [dI_i64, dI_u8, dI_u16, dI_u32, dB_bool, dS_slice, dP_ptr, dT_tup, dA_agg, dStr_str, dF_f, dC_c, dM_m, optP_some, ga0, ga1, ga2, ga3, ga4, cond_true, cond_false, chk_true, Bool.not_true, Bool.not_false, Option.isNone_none, Option.isNone_some, List.toList_toArray]
    have o1 := off_dev hd k1 o (by decide) (by decide) (by decide)
    have r1 := dev_ref hd hr k1
    have X1 := X.then k1 gD
    have gE : ∀ i, E i → w0.heap.size ≤ i := fun i hi => (hr.typed hi).2.1
    refine ⟨_, _, _, o1.at (j := 3) rfl, ?_⟩
    refine callP.use (CrashR_spec r1 hg (by omega) (CellsK.of_ex hk X1 gE) hkn (by omega)) ?_
    rintro _ w2 ⟨rfl, E2, r2, k2, hE2⟩
    try dsimp only [dI_i64, dI_u8, dI_u16, dI_u32, dB_bool, dS_slice, dP_ptr, dT_tup, dA_agg, dStr_str, dF_f, dC_c, dM_m, optP_some, ga0, ga1, ga2, ga3, ga4, cond_true, cond_false, chk_true, Bool.not_true, Bool.not_false, Option.isNone_none, Option.isNone_some, List.toList_toArray]
    obtain ⟨f1, f2, f3⟩ := crash_facts keep d hg
    exact k3_spec ⟨D1, E2, ref_dev h1 r1 k2, hg1, f1, r2, X1.then k2 gE⟩ fun w' h' => hC w' _ h' f2 (by omega)

theorem k4_spec {w0 w : World} {pd pr : Nat} {d : Dev} (h : Two w0 w pd pr d) (hcnt : d.loose.length ≤ 70000000) {n : Int} (hn : n ≤ 424) :
    stopcocklaw05_BasinPlays.k4 n (some ⟨pd, 0, none⟩) (some ⟨pr, 0, none⟩) w (RR2 w0) := by
  unfold stopcocklaw05_BasinPlays.k4
  obtain ⟨D, E, hd, hg, hf, hr, X⟩ := h
  refine ⟨fun t0 t5 t7 t16 w' => n = t0 ∧ t5 = some ⟨pd, 0, none⟩ ∧ t7 = some ⟨pr, 0, none⟩ ∧ 0 ≤ t16 ∧ t16 ≤ 424 ∧ Ex w w', fun t0 t5 t7 t16 w' => (424 - t16).toNat, ?_, ?_⟩
  · exact ⟨rfl, rfl, rfl, by omega, by omega, Ex.refl _⟩
  rintro _ _ _ t w1 ⟨rfl, rfl, rfl, h0, h1, x1⟩
  unfold stopcocklaw05_BasinPlays.b2
  refine cond_of (fun hc => ?_) (fun _ => Ret.mk ⟨rfl, X.trans x1⟩)
  have hc := of_decide_eq_true hc
  refine callP.use (get_dev (hd.ex x1) hg t) ?_
  rintro _ w2 ⟨x2, p5, n3, c3, rfl, hlen, hcs, hby⟩
  try dsimp only [dI_i64, dI_u8, dI_u16, dI_u32, dB_bool, dS_slice, dP_ptr, dT_tup, dA_agg, dStr_str, dF_f, dC_c, dM_m, optP_some, ga0, ga1, ga2, ga3, ga4, cond_true, cond_false, chk_true, Bool.not_true, Bool.not_false, Option.isNone_none, Option.isNone_some, List.toList_toArray]
  refine callP.use (get_ref ((hr.ex x1).ex x2) hg hf (by omega) t) ?_
  rintro _ w3 ⟨rfl, rfl⟩
  unfold str
  try dsimp only [dI_i64, dI_u8, dI_u16, dI_u32, dB_bool, dS_slice, dP_ptr, dT_tup, dA_agg, dStr_str, dF_f, dC_c, dM_m, optP_some, ga0, ga1, ga2, ga3, ga4, cond_true, cond_false, chk_true, Bool.not_true, Bool.not_false, Option.isNone_none, Option.isNone_some, List.toList_toArray]
  rw [cond_neg (by simp)]
  refine ⟨val d t, hlen, hcs, ?_⟩
  rw [strOf_eq hby hby, cond_neg (by simp), w64 (by omega) (by omega)]
  exact ⟨⟨rfl, rfl, rfl, by omega, by omega, x1.trans x2⟩, by ((try dsimp only); omega)⟩

/-! ### What came in -/
theorem writes_of {w : World} {m : Nat → Nat → Prop} : ∀ {rows : List (List Value)}, (∀ r ∈ rows, LineIs w m (.int .i64 (.sl 1 (.int .u8 .done) .done)) r) → ∃ ws : List Wt, rows = ws.map Wt.cells ∧ ∀ x ∈ ws, CellsO w x.p (u8s x.bs) ∧ x.bs.length = x.n ∧ ∀ b ∈ x.bs, 0 ≤ b ∧ b < 256
  | [], _ => ⟨[], rfl, fun x hx => by cases hx⟩
  | r :: rows, h => by
    obtain ⟨i, t, rfl, _, a, len, cap, rs, t2, rfl, hs, ht⟩ := h r (by simp)
    have : t2 = [] := ht
    subst this
    obtain ⟨xs, hi, _, _⟩ := hs.ints
    obtain ⟨ws, rfl, hw⟩ := writes_of (rows := rows) fun x hx => h x (List.mem_cons_of_mem _ hx)
    refine ⟨⟨i, xs, a, len, cap⟩ :: ws, rfl, fun x hx => ?_⟩
    rcases List.mem_cons.1 hx with rfl | hx
    · exact ⟨hi.cells, hi.size, fun b hb => wf_u8' (hi.wf b hb)⟩
    · exact hw x hx

theorem fresh_fresh (n : Nat) : Fresh (fresh n) := rfl
theorem BasinPlays_row (n : Int) (p : Option Addr) (m c : Nat) (rows : List (List Value)) (w : World) (hn : -9223372036854775808 ≤ n ∧ n ≤ 9223372036854775807)
    (hl : SlIs w (fun b c => c ≤ 1048576) 64 (LineIs w (fun b c => c ≤ 1048576) (.int .i64 (.int .i64 (.sl 32 (.int .i64 (.sl 1 (.int .u8 .done) .done)) (.sl 8 (.int .i64 .done) .done))))) p m c rows) (_ : 0 = 0) :
    stopcocklaw05_BasinPlays.C n p m c w (Ret fun v w' => v = .bool true ∧ Ex w w') := by
  apply stopcocklaw05_BasinPlays.ok
  unfold stopcocklaw05_BasinPlays.main
  by_cases hgood : 1 ≤ n ∧ n ≤ 424
  · refine callP.use (New_spec n w hgood) ?_
    rintro _ w1 ⟨pd, D, rfl, x1, h1⟩
    try dsimp only [dI_i64, dI_u8, dI_u16, dI_u32, dB_bool, dS_slice, dP_ptr, dT_tup, dA_agg, dStr_str, dF_f, dC_c, dM_m, optP_some, ga0, ga1, ga2, ga3, ga4, cond_true, cond_false, chk_true, Bool.not_true, Bool.not_false, Option.isNone_none, Option.isNone_some, List.toList_toArray]
    rw [condd_neg (by omega)]
    unfold stopcocklaw05_BasinPlays.k1
    rw [condd_neg (by omega)]
    refine callP.use (awake_spec w1) ?_
    rintro _ w2 ⟨rfl, x2⟩
    try dsimp only [dI_i64, dI_u8, dI_u16, dI_u32, dB_bool, dS_slice, dP_ptr, dT_tup, dA_agg, dStr_str, dF_f, dC_c, dM_m, optP_some, ga0, ga1, ga2, ga3, ga4, cond_true, cond_false, chk_true, Bool.not_true, Bool.not_false, Option.isNone_none, Option.isNone_some, List.toList_toArray]
    rw [cond_neg (by decide), cond_neg (by decide)]
    refine callP.use (Size_spec (h1.ex x2)) ?_
    rintro _ w3 ⟨rfl, rfl⟩
    try dsimp only [dI_i64, dI_u8, dI_u16, dI_u32, dB_bool, dS_slice, dP_ptr, dT_tup, dA_agg, dStr_str, dF_f, dC_c, dM_m, optP_some, ga0, ga1, ga2, ga3, ga4, cond_true, cond_false, chk_true, Bool.not_true, Bool.not_false, Option.isNone_none, Option.isNone_some, List.toList_toArray]
    have hsz : ((fresh n.toNat).now.length : Int) = n := by simp [fresh]; omega
    rw [hsz, cond_neg (by simp)]
    refine callP.use (NewR_spec n w3 (by omega)) ?_
    rintro _ w4 ⟨pr, E, rfl, x4, r4⟩
    try dsimp only [dI_i64, dI_u8, dI_u16, dI_u32, dB_bool, dS_slice, dP_ptr, dT_tup, dA_agg, dStr_str, dF_f, dC_c, dM_m, optP_some, ga0, ga1, ga2, ga3, ga4, cond_true, cond_false, chk_true, Bool.not_true, Bool.not_false, Option.isNone_none, Option.isNone_some, List.toList_toArray]
    have X3 := x1.trans x2
    obtain ⟨left, ps, pl, cs, cl, q1, q2, q3⟩ := r4
    have r4 : Ref w4 w.heap.size pr (fresh n.toNat) E := ⟨left, ps, pl, cs, cl, q1, ⟨q2.cell.lower X3.size, q2.su.lower X3.size, q2.lo.lower X3.size⟩, q3⟩
    have T4 : Two w w4 pd pr (fresh n.toNat) := ⟨D, E, (h1.ex x2).ex x4, fresh_good (by omega), fresh_fresh _, r4, X3.trans x4⟩
    refine ⟨fun t0 q k j t5 t7 t8 w' => n = t0 ∧ p = q ∧ m = k ∧ c = j ∧ t5 = some ⟨pd, 0, none⟩ ∧ t7 = some ⟨pr, 0, none⟩ ∧ 0 ≤ t8 ∧ t8 ≤ 60 ∧ ∃ d, Two w w' pd pr d ∧ (d.loose.length : Int) ≤ t8 * 1048576, fun t0 q k j t5 t7 t8 w' => (60 - t8).toNat, ?_, ?_⟩
    · exact ⟨rfl, rfl, rfl, rfl, rfl, rfl, by omega, by omega, _, T4, by simp [fresh]⟩
    clear T4 r4 q1 q2 q3 h1 x1 x2 x4 X3
    rintro _ _ _ _ _ _ t w5 ⟨rfl, rfl, rfl, rfl, rfl, rfl, h0, h60, d, T5, hcnt⟩
    unfold stopcocklaw05_BasinPlays.b1
    have out : stopcocklaw05_BasinPlays.k4 n (some ⟨pd, 0, none⟩) (some ⟨pr, 0, none⟩) w5 (RR2 w) := k4_spec T5 (by omega) hgood.2
    refine cond_of (fun hc => ?_) (fun _ => out)
    have hc := of_decide_eq_true hc
    refine cond_of (fun hc2 => ?_) (fun _ => out)
    have hc2 := of_decide_eq_true hc2
    clear out
    have hrl := hl.size
    obtain ⟨r, hr, hrm, _⟩ := getE (l := rows) (i := t.toNat) (by omega)
    have hline := hl.each r hrm
    obtain ⟨D, E, hd, hg, hf, hrf, X⟩ := T5
    obtain ⟨a, haa, hrow⟩ := (hl.cells.ex X).row (fun r hr => (hl.each r hr).len) (by decide) hr
    obtain ⟨what, t1, rfl, _, N, t2, rfl, hwN, lp, ln, lc, rw1, t3, rfl, hlist, kp, kn, kc, rw2, t4, rfl, hkeep, ht4⟩ := hline
    have : t4 = [] := ht4
    subst this
    obtain ⟨ws, rfl, hws⟩ := writes_of hlist.each
    obtain ⟨keep, hki, hkm, _⟩ := hkeep.ints
    have hwN := wf_i64' hwN
    have hls := hlist.size
    have hlr := hlist.room
    have hlm := hlist.most
    have hkr := hki.room
    have hks := hki.size
    rw [List.length_map] at hls
    refine chkd_of h0 (chkd_of hc (optP_of haa ⟨#[.int .i64 what, .int .i64 N, .slice lp ln lc, .slice kp kn kc], rfl, hrow, ?_⟩))
    rintro b3 w6 rfl rfl
    have o6 := Own.new (w := w5) [.int .i64 0, .int .i64 0, .slice none 0 0, .slice none 0 0] 46
    have x6 := Ex.alloc w5 (.cells #[.int .i64 0, .int .i64 0, .slice none 0 0, .slice none 0 0] 46)
    generalize w5.alloc (.cells #[.int .i64 0, .int .i64 0, .slice none 0 0, .slice none 0 0] 46) = w6 at o6 x6 ⊢
    refine chkd_of rfl ?_
    refine o6.put (by rfl) (by simp [Value.oneCell']) fun w7 k7 o7 => ?_
    have x7 : Ex w5 w7 := x6.then k7 fun i hi => by rw [hi]; exact Nat.le_refl _
    have T7 : Two w w7 pd pr d := Two.ex ⟨D, E, hd, hg, hf, hrf, X⟩ x7
    have o7 : Own w7 w.heap.size 46 4 (some ⟨w5.heap.size, 0, none⟩) 1 1 [.int .i64 what, .int .i64 N, .slice lp ln lc, .slice kp kn kc] := o7.lower X.size
    refine ⟨_, o7.at (j := 0) rfl, ?_⟩
    have step : ∀ (t74 : Int) (t83 : Bool), stopcocklaw05_BasinPlays.k2 n p m c (some ⟨pd, 0, none⟩) (some ⟨pr, 0, none⟩) t w5.heap.size 0 0 t (decide (t < 60)) t74 t83 w7 (RR2 w) (fun t0' q' k' j' t5' t7' t8' w' => (n = t0' ∧ p = q' ∧ m = k' ∧ c = j' ∧ t5' = some ⟨pd, 0, none⟩ ∧ t7' = some ⟨pr, 0, none⟩ ∧ 0 ≤ t8' ∧ t8' ≤ 60 ∧ ∃ d, Two w w' pd pr d ∧ (d.loose.length : Int) ≤ t8' * 1048576) ∧ (60 - t8').toNat < (60 - t).toNat) := by
      intro t74 t83
      refine k2_spec T7 (by omega) hwN.2 o7 hls (by omega) hlist.cells hws hks (by omega) hki.cells fun w' d' T' e1 e2 => ?_
      rw [w64 (by omega) (by omega)]
      exact ⟨⟨rfl, rfl, rfl, rfl, rfl, rfl, by omega, by omega, d', T', by omega⟩, by omega⟩
    exact cond_of (fun _ => step _ _) (fun _ => cond_of (fun _ => step _ _) (fun _ => step _ _))
  · refine callP.use (New_bad n w hgood) ?_
    rintro _ w1 ⟨rfl, x1⟩
    try dsimp only [dI_i64, dI_u8, dI_u16, dI_u32, dB_bool, dS_slice, dP_ptr, dT_tup, dA_agg, dStr_str, dF_f, dC_c, dM_m, optP_some, ga0, ga1, ga2, ga3, ga4, cond_true, cond_false, chk_true, Bool.not_true, Bool.not_false, Option.isNone_none, Option.isNone_some, List.toList_toArray]
    have fin : stopcocklaw05_BasinPlays.k1 n p m c none 1 true w1 (RR2 w) := by
      unfold stopcocklaw05_BasinPlays.k1
      try dsimp only [dI_i64, dI_u8, dI_u16, dI_u32, dB_bool, dS_slice, dP_ptr, dT_tup, dA_agg, dStr_str, dF_f, dC_c, dM_m, optP_some, ga0, ga1, ga2, ga3, ga4, cond_true, cond_false, chk_true, Bool.not_true, Bool.not_false, Option.isNone_none, Option.isNone_some, List.toList_toArray]
      refine callP.use (awake_spec w1) ?_
      rintro _ w2 ⟨rfl, x2⟩
      try dsimp only [dI_i64, dI_u8, dI_u16, dI_u32, dB_bool, dS_slice, dP_ptr, dT_tup, dA_agg, dStr_str, dF_f, dC_c, dM_m, optP_some, ga0, ga1, ga2, ga3, ga4, cond_true, cond_false, chk_true, Bool.not_true, Bool.not_false, Option.isNone_none, Option.isNone_some, List.toList_toArray]
      rw [cond_pos (by decide)]
      exact Ret.mk ⟨rfl, x1.trans x2⟩
    refine cond_of (fun _ => fin) (fun hc => ?_)
    have hc := of_decide_eq_false hc
    rw [decide_eq_true (show n > 424 by omega)]
    exact fin
end Go.Proofs.Yticdeknmeafjcaa.G
