/-
  The gate: Submit, Done, the simplest facts; the laws GateNone and GateFull: the walks.
-/
import Derived.Test.YtpbnjjjglbnnpaaGateA
namespace Go.Proofs.Ytpbnjjjglbnnpaa.G
open Go.Dec Go.RowKit
set_option linter.unusedVariables false
set_option linter.unusedSimpArgs false

theorem Submit_none (r : Rq) (w : World) : gate_Gate_Submit.C none r.k r.v r.b r.s r.p r.n r.c w (Ret fun v w' => v = .tuple #[.int .i64 0, .int .i64 1] ∧ Ex w w') := by
  apply gate_Gate_Submit.ok
  unfold gate_Gate_Submit.main
  rintro b1 w1 rfl rfl
  try dsimp only [dI_i64, dI_u8, dI_u16, dI_u32, dB_bool, dS_slice, dP_ptr, dT_tup, dA_agg, dStr_str, dF_f, dC_c, dM_m, optP_some, ga0, ga1, ga2, ga3, ga4, cond_true, cond_false, chk_true, Bool.not_true, Bool.not_false, Option.isNone_none, Option.isNone_some, List.toList_toArray]
  exact Ret.mk ⟨rfl, Ex.alloc w _⟩
theorem fill_wait (a b c d t : Int) (p : Option Addr) (n m : Nat) : Instr.fill (fun i => #[(0, 5), (5, 1)][i]?) #[(Value.int .i64 0), (Value.int .i64 0), (Value.int .i64 0), (Value.int .i64 0), (Value.slice none 0 0), (Value.int .i64 0)] [(0, (Value.agg #[.int .i64 a, .int .i64 b, .int .i64 c, .int .i64 d, .slice p n m])), (1, (Value.int .i64 t))] =
    some #[.int .i64 a, .int .i64 b, .int .i64 c, .int .i64 d, .slice p n m, .int .i64 t] := by
  simp [Instr.fill, Value.cells]
theorem Submit_spec {w0 w : World} {B pg : Nat} {xs : List (Rq × Int)} {tk : Int} (h : GateIs w B pg xs tk) (hB : B ≤ w.heap.size) (e0 : Ex w0 w) (hw0 : w0.heap.size ≤ B) (r : Rq) (hr : RqOk w0 r) (ht : 0 ≤ tk ∧ tk < 1000000) :
    gate_Gate_Submit.C (some ⟨pg, 0, none⟩) r.k r.v r.b r.s r.p r.n r.c w (Ret fun v w' =>
      (¬ good r.k ∧ v = .tuple #[.int .i64 0, .int .i64 1] ∧ Ex w w') ∨ (good r.k ∧ 16 ≤ xs.length ∧ v = .tuple #[.int .i64 0, .int .i64 12] ∧ Ex w w') ∨
      (good r.k ∧ xs.length < 16 ∧ v = .tuple #[.int .i64 (tk + 1), .int .i64 0] ∧ Kp w w' (Mod w B) ∧ ∃ r', like r' r ∧ GateIs w' B pg (xs ++ [(r', tk + 1)]) (tk + 1))) := by
  apply gate_Gate_Submit.ok
  unfold gate_Gate_Submit.main
  obtain ⟨q, c, h1, h2, h3⟩ := h
  rintro b1 w1 rfl rfl
  have o1 := Own.new (w := w) (Rq.cells r) 29
  have x1 := Ex.alloc w (.cells (Rq.cells r).toArray 29)
  unfold Rq.cells at o1 x1
  generalize w.alloc (.cells #[.int .i64 r.k, .int .i64 r.v, .int .i64 r.b, .int .i64 r.s, .slice r.p r.n r.c] 29) = w1 at o1 x1 ⊢
  try dsimp only [dI_i64, dI_u8, dI_u16, dI_u32, dB_bool, dS_slice, dP_ptr, dT_tup, dA_agg, dStr_str, dF_f, dC_c, dM_m, optP_some, ga0, ga1, ga2, ga3, ga4, cond_true, cond_false, chk_true, Bool.not_true, Bool.not_false, Option.isNone_none, Option.isNone_some, List.toList_toArray]
  refine ⟨_, rfl, o1.cells, ?_⟩
  refine callP.use (Check_spec r w1) ?_
  rintro _ w2 ⟨hv, x2⟩
  have x12 := x1.trans x2
  rcases hv.symm with ⟨hg, rfl⟩ | ⟨hg, rfl⟩
  · try dsimp only [dI_i64, dI_u8, dI_u16, dI_u32, dB_bool, dS_slice, dP_ptr, dT_tup, dA_agg, dStr_str, dF_f, dC_c, dM_m, optP_some, ga0, ga1, ga2, ga3, ga4, cond_true, cond_false, chk_true, Bool.not_true, Bool.not_false, Option.isNone_none, Option.isNone_some, List.toList_toArray]
    rw [cond_pos (by decide)]
    exact Ret.mk (.inl ⟨hg, rfl, x12⟩)
  try dsimp only [dI_i64, dI_u8, dI_u16, dI_u32, dB_bool, dS_slice, dP_ptr, dT_tup, dA_agg, dStr_str, dF_f, dC_c, dM_m, optP_some, ga0, ga1, ga2, ga3, ga4, cond_true, cond_false, chk_true, Bool.not_true, Bool.not_false, Option.isNone_none, Option.isNone_some, List.toList_toArray]
  rw [cond_neg (by decide)]
  have g1 := h1.ex x12
  have g2 := h2.ex x12
  have g3 : ∀ x ∈ xs, Own w2 B 5 1 x.1.p x.1.n x.1.c (bytesOf x.1) := fun x hx => (h3 x hx).1.ex x12
  have o1 := o1.ex x2
  refine ⟨_, _, _, g1.at (j := 0) rfl, cond_of (fun h => ?_) (fun h => ?_)⟩
  · have := of_decide_eq_true h
    exact Ret.mk (.inr (.inl ⟨hg, by omega, rfl, x12⟩))
  have hlt : xs.length < 16 := by have := of_decide_eq_false h; omega
  simp only [addr1]
  refine ⟨_, g1.at (j := 1) rfl, ?_⟩
  rw [w64 (x := tk + 1) (by omega) (by omega)]
  refine g1.put1 (j := 1) (by show 1 < 1 * 2; omega) rfl fun w4 k4 g1' => ?_
  have tpg : Typed w2 47 pg := (g1.typed rfl).1
  have hpg : B ≤ pg := (g1.typed rfl).2.1
  have g2' := (g2.away k4 47 (fun i hi => hi ▸ tpg) (by decide)).ex (Ex.drew w4)
  have g3' : ∀ x ∈ xs, Own w4.drew B 5 1 x.1.p x.1.n x.1.c (bytesOf x.1) := fun x hx => ((g3 x hx).away k4 47 (fun i hi => hi ▸ tpg) (by decide)).ex (Ex.drew w4)
  have o1' := (o1.away k4 47 (fun i hi => hi ▸ tpg) (by decide)).ex (Ex.drew w4)
  have g1' := g1'.ex (Ex.drew w4)
  have K4 : Kp w w4.drew fun i => i = pg := (x12.kp _).tr (k4.tr ((Ex.drew w4).kp _))
  have e4 : Ex w0 w4.drew := e0.then K4 fun i hi => by omega
  clear g1 g2 g3 o1 k4
  generalize w4.drew = w4 at g1' g2' g3' o1' K4 e4 ⊢
  refine ⟨_, _, _, g1'.at (j := 0) rfl, _, rfl, o1'.cells, _, g1'.at (j := 1) rfl, ?_⟩
  refine callP.use (clone_spec r w4 (hr.ex e4)) ?_
  rintro _ w5 ⟨p', c', rfl, x5, o5⟩
  unfold Rq.cells
  try dsimp only [dI_i64, dI_u8, dI_u16, dI_u32, dB_bool, dS_slice, dP_ptr, dT_tup, dA_agg, dStr_str, dF_f, dC_c, dM_m, optP_some, ga0, ga1, ga2, ga3, ga4, cond_true, cond_false, chk_true, Bool.not_true, Bool.not_false, Option.isNone_none, Option.isNone_some, List.toList_toArray]
  have g1 := g1'.ex x5
  refine ⟨g1.at (j := 1) rfl, g1.at (j := 0) rfl, optP_of (fill_wait _ _ _ _ _ _ _ _) ?_⟩
  rintro b2 w7 rfl rfl
  have x7 := Ex.alloc w5 (.cells #[boxed ({ r with p := p', c := c' }, tk + 1)] 20)
  have c7 : CellsO (w5.alloc (.cells #[boxed ({ r with p := p', c := c' }, tk + 1)] 20)) (some ⟨w5.heap.size, 0, none⟩) [boxed ({ r with p := p', c := c' }, tk + 1)] := CellsO.alloc _ 20
  unfold boxed at x7 c7
  dsimp only at x7 c7
  generalize w5.alloc (.cells #[.iface 50 (.agg #[.int .i64 r.k, .int .i64 r.v, .int .i64 r.b, .int .i64 r.s, .slice p' r.n c', .int .i64 (tk + 1)])] 20) = w7 at x7 c7 ⊢
  have x57 := x5.trans x7
  have g1 := g1'.ex x57
  have g2 := g2'.ex x57
  have g3 : ∀ x ∈ xs, Own w7 B 5 1 x.1.p x.1.n x.1.c (bytesOf x.1) := fun x hx => (g3' x hx).ex x57
  have hB4 : B ≤ w4.heap.size := Nat.le_trans hB K4.size
  have hB7 : B ≤ w7.heap.size := Nat.le_trans hB4 x57.size
  have o7 := (o5.ex x7).lower hB4
  have K7 : Kp w w7 fun i => i = pg := K4.tr (x57.kp _)
  refine ⟨g1.at (j := 0) rfl, ?_⟩
  refine appP_ownO g2 hB7 [boxed ({ r with p := p', c := c' }, tk + 1)] c7 rfl (fun y hy => by simp only [List.mem_singleton] at hy; subst hy; rfl) rfl (by omega) (by omega) (fun p3 c3 w8 g8 k8 => ?_)
  have tq : ∀ i, (∃ x, q = some x ∧ x.block = i) → Typed w7 20 i := fun i ⟨x, hx, hi⟩ => hi ▸ (g2.typed hx).1
  have g1 := g1.away k8 20 tq (by decide)
  have o8 := o7.away k8 20 tq (by decide)
  have g3 : ∀ x ∈ xs, Own w8 B 5 1 x.1.p x.1.n x.1.c (bytesOf x.1) := fun x hx => (g3 x hx).away k8 20 tq (by decide)
  have tpg : Typed w8 47 pg := (g1.typed rfl).1
  refine g1.put1 (j := 0) (by show 0 < 1 * 2; omega) rfl fun w9 k9 g9 => ?_
  refine ⟨_, g9.at (j := 1) rfl, Ret.mk (.inr (.inr ⟨hg, hlt, rfl, ?_, { r with p := p', c := c' }, ⟨rfl, rfl, rfl, rfl, rfl⟩, p3, c3, ?_, ?_, ?_⟩))⟩
  · have tpg0 : Typed w 47 pg := (h1.typed rfl).1
    have K8 : Kp w w8 fun i => i = pg ∨ ∃ x, q = some x ∧ x.block = i := (K7.mono fun i _ hi => .inl hi).tr (k8.mono fun i _ hi => .inr hi)
    have K9 := K8.tr (k9.mono fun i _ hi => .inl hi)
    refine K9.mono fun i _ hi => ?_
    rcases hi with rfl | ⟨x, hx, rfl⟩
    · exact ⟨hpg, .inl tpg0⟩
    · exact ⟨(h2.typed hx).2.1, .inr (h2.typed hx).1⟩
  · rw [List.length_append]
    exact g9
  · rw [List.length_append, List.map_append]
    exact g8.away k9 47 (fun i hi => hi ▸ tpg) (by decide)
  · intro x hx
    rcases List.mem_append.1 hx with hx | hx
    · exact ⟨(g3 x hx).away k9 47 (fun i hi => hi ▸ tpg) (by decide), (h3 x hx).2⟩
    · simp only [List.mem_singleton] at hx
      subst hx
      exact ⟨o8.away k9 47 (fun i hi => hi ▸ tpg) (by decide), hr.small.len, hr.small.few, hr.small.wf⟩

theorem Done_none (w : World) : gate_Gate_Done.C none w (Ret fun v w' => v = .int .i64 1 ∧ Ex w w') := by
  apply gate_Gate_Done.ok
  unfold gate_Gate_Done.main
  refine callP.use (First_none w) ?_
  rintro _ w1 ⟨rfl, x1⟩
  unfold zeros
  try dsimp only [dI_i64, dI_u8, dI_u16, dI_u32, dB_bool, dS_slice, dP_ptr, dT_tup, dA_agg, dStr_str, dF_f, dC_c, dM_m, optP_some, ga0, ga1, ga2, ga3, ga4, cond_true, cond_false, chk_true, Bool.not_true, Bool.not_false, Option.isNone_none, Option.isNone_some, List.toList_toArray]
  rintro b1 w3 rfl rfl
  have o3 := Own.new (w := w1) zeros 29
  have x3 := Ex.alloc w1 (.cells zeros.toArray 29)
  unfold zeros at o3 x3
  generalize w1.alloc (.cells #[.int .i64 0, .int .i64 0, .int .i64 0, .int .i64 0, .slice none 0 0] 29) = w3 at o3 x3 ⊢
  refine chkd_of rfl ?_
  try dsimp only [dI_i64, dI_u8, dI_u16, dI_u32, dB_bool, dS_slice, dP_ptr, dT_tup, dA_agg, dStr_str, dF_f, dC_c, dM_m, optP_some, ga0, ga1, ga2, ga3, ga4, cond_true, cond_false, chk_true, Bool.not_true, Bool.not_false, Option.isNone_none, Option.isNone_some, List.toList_toArray]
  refine o3.put (by rfl) five_one fun w4 k4 o4 => ?_
  rw [cond_pos (by decide)]
  exact Ret.mk ⟨rfl, x1.trans (x3.then k4 fun i hi => by rw [hi]; exact Nat.le_refl _)⟩
theorem Done_nil {w : World} {B pg : Nat} {tk : Int} (h : GateIs w B pg [] tk) : gate_Gate_Done.C (some ⟨pg, 0, none⟩) w (Ret fun v w' => v = .int .i64 4 ∧ Ex w w') := by
  apply gate_Gate_Done.ok
  unfold gate_Gate_Done.main
  refine callP.use (First_nil h) ?_
  rintro _ w1 ⟨rfl, x1⟩
  unfold zeros
  try dsimp only [dI_i64, dI_u8, dI_u16, dI_u32, dB_bool, dS_slice, dP_ptr, dT_tup, dA_agg, dStr_str, dF_f, dC_c, dM_m, optP_some, ga0, ga1, ga2, ga3, ga4, cond_true, cond_false, chk_true, Bool.not_true, Bool.not_false, Option.isNone_none, Option.isNone_some, List.toList_toArray]
  rintro b1 w3 rfl rfl
  have o3 := Own.new (w := w1) zeros 29
  have x3 := Ex.alloc w1 (.cells zeros.toArray 29)
  unfold zeros at o3 x3
  generalize w1.alloc (.cells #[.int .i64 0, .int .i64 0, .int .i64 0, .int .i64 0, .slice none 0 0] 29) = w3 at o3 x3 ⊢
  refine chkd_of rfl ?_
  try dsimp only [dI_i64, dI_u8, dI_u16, dI_u32, dB_bool, dS_slice, dP_ptr, dT_tup, dA_agg, dStr_str, dF_f, dC_c, dM_m, optP_some, ga0, ga1, ga2, ga3, ga4, cond_true, cond_false, chk_true, Bool.not_true, Bool.not_false, Option.isNone_none, Option.isNone_some, List.toList_toArray]
  refine o3.put (by rfl) five_one fun w4 k4 o4 => ?_
  rw [cond_pos (by decide)]
  exact Ret.mk ⟨rfl, x1.trans (x3.then k4 fun i hi => by rw [hi]; exact Nat.le_refl _)⟩
theorem Done_cons {w : World} {B pg : Nat} {x : Rq × Int} {xs : List (Rq × Int)} {tk : Int} (h : GateIs w B pg (x :: xs) tk) : gate_Gate_Done.C (some ⟨pg, 0, none⟩) w (Ret fun v w' => v = .int .i64 0 ∧ Kp w w' (Mod w B) ∧ GateIs w' B pg xs tk) := by
  apply gate_Gate_Done.ok
  unfold gate_Gate_Done.main
  refine callP.use (First_cons h) ?_
  rintro _ w1 ⟨p', c', rfl, x1, _⟩
  unfold Rq.cells
  try dsimp only [dI_i64, dI_u8, dI_u16, dI_u32, dB_bool, dS_slice, dP_ptr, dT_tup, dA_agg, dStr_str, dF_f, dC_c, dM_m, optP_some, ga0, ga1, ga2, ga3, ga4, cond_true, cond_false, chk_true, Bool.not_true, Bool.not_false, Option.isNone_none, Option.isNone_some, List.toList_toArray]
  rintro b1 w3 rfl rfl
  have o3 := Own.new (w := w1) zeros 29
  have x3 := Ex.alloc w1 (.cells zeros.toArray 29)
  unfold zeros at o3 x3
  generalize w1.alloc (.cells #[.int .i64 0, .int .i64 0, .int .i64 0, .int .i64 0, .slice none 0 0] 29) = w3 at o3 x3 ⊢
  refine chkd_of rfl ?_
  try dsimp only [dI_i64, dI_u8, dI_u16, dI_u32, dB_bool, dS_slice, dP_ptr, dT_tup, dA_agg, dStr_str, dF_f, dC_c, dM_m, optP_some, ga0, ga1, ga2, ga3, ga4, cond_true, cond_false, chk_true, Bool.not_true, Bool.not_false, Option.isNone_none, Option.isNone_some, List.toList_toArray]
  refine o3.put (by rfl) five_one fun w4 k4 o4 => ?_
  rw [cond_neg (by decide)]
  have X4 : Ex w w4 := x1.trans (x3.then k4 fun i hi => by rw [hi]; exact Nat.le_refl _)
  obtain ⟨q, c, g1, g2, g3⟩ := h.ex X4
  obtain ⟨_, _, h1, _, _⟩ := h
  refine ⟨_, _, _, g1.at (j := 0) rfl, chkd_of (by simp only [List.length_cons]; omega) ?_⟩
  have tpg : Typed w4 47 pg := (g1.typed rfl).1
  refine g1.put1 (j := 0) (by show 0 < 1 * 2; omega) rfl fun w5 k5 g5 => ?_
  have tpg0 : Typed w 47 pg := (h1.typed rfl).1
  have hpg : B ≤ pg := (h1.typed rfl).2.1
  refine Ret.mk ⟨rfl, ((X4.kp _).tr k5).mono fun i _ hi => ⟨by omega, .inl (hi ▸ tpg0)⟩, slA q c 1 1, c - 1, ?_, ?_, ?_⟩
  · exact g5
  · have := (g2.away k5 47 (fun i hi => hi ▸ tpg) (by decide)).tail (by simp) (by decide)
    simpa using this
  · intro y hy
    have := g3 y (List.mem_cons_of_mem _ hy)
    exact ⟨this.1.away k5 47 (fun i hi => hi ▸ tpg) (by decide), this.2⟩

theorem awake_spec (w : World) : stopcocklaw19_awake.C w (Ret fun v w' => v = .bool true ∧ Ex w w') := by
  apply stopcocklaw19_awake.ok
  unfold stopcocklaw19_awake.main
  refine callP.use (New_spec w) ?_
  rintro _ w1 ⟨rfl, x1, G1⟩
  try dsimp only [dI_i64, dI_u8, dI_u16, dI_u32, dB_bool, dS_slice, dP_ptr, dT_tup, dA_agg, dStr_str, dF_f, dC_c, dM_m, optP_some, ga0, ga1, ga2, ga3, ga4, cond_true, cond_false, chk_true, Bool.not_true, Bool.not_false, Option.isNone_none, Option.isNone_some, List.toList_toArray]
  refine callP.use (Submit_spec G1 x1.size x1 (Nat.le_refl _) ⟨4, 3, 0, 0, [], none, 0, 0⟩ ⟨rfl, rfl, (by decide), (by simp)⟩ (by omega)) ?_
  rintro _ w3 hc
  rcases hc with ⟨hb, _⟩ | ⟨_, hb, _⟩ | ⟨_, _, rfl, k3, r', hl, G3⟩
  · exact absurd ⟨by decide, by decide⟩ hb
  · simp at hb
  have X3 : Ex w w3 := x1.then k3 fun i hi => hi.1
  try dsimp only [dI_i64, dI_u8, dI_u16, dI_u32, dB_bool, dS_slice, dP_ptr, dT_tup, dA_agg, dStr_str, dF_f, dC_c, dM_m, optP_some, ga0, ga1, ga2, ga3, ga4, cond_true, cond_false, chk_true, Bool.not_true, Bool.not_false, Option.isNone_none, Option.isNone_some, List.toList_toArray]
  refine callP.use (First_cons G3) ?_
  rintro _ w5 ⟨p', c', rfl, x5, _⟩
  unfold Rq.cells
  try dsimp only [dI_i64, dI_u8, dI_u16, dI_u32, dB_bool, dS_slice, dP_ptr, dT_tup, dA_agg, dStr_str, dF_f, dC_c, dM_m, optP_some, ga0, ga1, ga2, ga3, ga4, cond_true, cond_false, chk_true, Bool.not_true, Bool.not_false, Option.isNone_none, Option.isNone_some, List.toList_toArray]
  rintro b1 w7 rfl rfl
  have o7 := Own.new (w := w5) zeros 29
  have x7 := Ex.alloc w5 (.cells zeros.toArray 29)
  unfold zeros at o7 x7
  generalize w5.alloc (.cells #[.int .i64 0, .int .i64 0, .int .i64 0, .int .i64 0, .slice none 0 0] 29) = w7 at o7 x7 ⊢
  refine chkd_of rfl ?_
  try dsimp only [dI_i64, dI_u8, dI_u16, dI_u32, dB_bool, dS_slice, dP_ptr, dT_tup, dA_agg, dStr_str, dF_f, dC_c, dM_m, optP_some, ga0, ga1, ga2, ga3, ga4, cond_true, cond_false, chk_true, Bool.not_true, Bool.not_false, Option.isNone_none, Option.isNone_some, List.toList_toArray]
  refine o7.put (by rfl) five_one fun w8 k8 o8 => ?_
  rw [cond_pos (by decide), cond_pos (by decide), cond_pos (by decide), cond_pos (by decide)]
  have X8 : Ex w3 w8 := x5.trans (x7.then k8 fun i hi => by rw [hi]; exact Nat.le_refl _)
  refine ⟨_, o8.at (j := 1) rfl, ?_⟩
  have hv : r'.v = 3 := hl.2.1
  rw [hv, cond_pos (by decide)]
  refine callP.use (Len_spec (G3.ex X8)) ?_
  rintro _ w9 ⟨rfl, rfl⟩
  try dsimp only [dI_i64, dI_u8, dI_u16, dI_u32, dB_bool, dS_slice, dP_ptr, dT_tup, dA_agg, dStr_str, dF_f, dC_c, dM_m, optP_some, ga0, ga1, ga2, ga3, ga4, cond_true, cond_false, chk_true, Bool.not_true, Bool.not_false, Option.isNone_none, Option.isNone_some, List.toList_toArray]
  exact Ret.mk ⟨congrArg Value.bool (by simp), X3.trans X8⟩

theorem GateNone_row (a0 a1 a2 a3 : Int) (p : Option Addr) (n c : Nat) (xs : List Int) (w : World) (_ : -9223372036854775808 ≤ a0 ∧ a0 ≤ 9223372036854775807) (_ : -9223372036854775808 ≤ a1 ∧ a1 ≤ 9223372036854775807) (_ : -9223372036854775808 ≤ a2 ∧ a2 ≤ 9223372036854775807) (_ : -9223372036854775808 ≤ a3 ∧ a3 ≤ 9223372036854775807) (hi : Ints .u8 w p n c xs) (hm : c * 1 ≤ 140737488351232) :
    stopcocklaw19_GateNone.C a0 a1 a2 a3 p n c w (Ret fun v w' => v = .bool true ∧ Ex w w') := by
  apply stopcocklaw19_GateNone.ok
  unfold stopcocklaw19_GateNone.main
  rintro b1 w1 rfl rfl
  have o1 := Own.new (w := w) [.int .i64 a0, .int .i64 a1, .int .i64 a2, .int .i64 a3, .slice p n c] 29
  have x1 := Ex.alloc w (.cells #[.int .i64 a0, .int .i64 a1, .int .i64 a2, .int .i64 a3, .slice p n c] 29)
  generalize w.alloc (.cells #[.int .i64 a0, .int .i64 a1, .int .i64 a2, .int .i64 a3, .slice p n c] 29) = w1 at o1 x1 ⊢
  refine ⟨_, rfl, o1.cells, ?_⟩
  refine callP.use (Submit_none ⟨a0, a1, a2, a3, xs, p, n, c⟩ w1) ?_
  rintro _ w2 ⟨rfl, x2⟩
  try dsimp only [dI_i64, dI_u8, dI_u16, dI_u32, dB_bool, dS_slice, dP_ptr, dT_tup, dA_agg, dStr_str, dF_f, dC_c, dM_m, optP_some, ga0, ga1, ga2, ga3, ga4, cond_true, cond_false, chk_true, Bool.not_true, Bool.not_false, Option.isNone_none, Option.isNone_some, List.toList_toArray]
  refine callP.use (First_none w2) ?_
  rintro _ w4 ⟨rfl, x4⟩
  unfold zeros
  try dsimp only [dI_i64, dI_u8, dI_u16, dI_u32, dB_bool, dS_slice, dP_ptr, dT_tup, dA_agg, dStr_str, dF_f, dC_c, dM_m, optP_some, ga0, ga1, ga2, ga3, ga4, cond_true, cond_false, chk_true, Bool.not_true, Bool.not_false, Option.isNone_none, Option.isNone_some, List.toList_toArray]
  rintro b2 w6 rfl rfl
  have o6 := Own.new (w := w4) zeros 29
  have x6 := Ex.alloc w4 (.cells zeros.toArray 29)
  unfold zeros at o6 x6
  generalize w4.alloc (.cells #[.int .i64 0, .int .i64 0, .int .i64 0, .int .i64 0, .slice none 0 0] 29) = w6 at o6 x6 ⊢
  refine chkd_of rfl ?_
  try dsimp only [dI_i64, dI_u8, dI_u16, dI_u32, dB_bool, dS_slice, dP_ptr, dT_tup, dA_agg, dStr_str, dF_f, dC_c, dM_m, optP_some, ga0, ga1, ga2, ga3, ga4, cond_true, cond_false, chk_true, Bool.not_true, Bool.not_false, Option.isNone_none, Option.isNone_some, List.toList_toArray]
  refine o6.put (by rfl) five_one fun w7 k7 o7 => ?_
  have X7 : Ex w w7 := ((x1.trans x2).trans x4).trans (x6.then k7 fun i hi => by rw [hi]; exact Nat.le_refl _)
  refine callP.use (awake_spec w7) ?_
  rintro _ w8 ⟨rfl, x8⟩
  try dsimp only [dI_i64, dI_u8, dI_u16, dI_u32, dB_bool, dS_slice, dP_ptr, dT_tup, dA_agg, dStr_str, dF_f, dC_c, dM_m, optP_some, ga0, ga1, ga2, ga3, ga4, cond_true, cond_false, chk_true, Bool.not_true, Bool.not_false, Option.isNone_none, Option.isNone_some, List.toList_toArray]
  rw [cond_pos (by decide), cond_pos (by decide), cond_pos (by decide)]
  refine callP.use (Done_none w8) ?_
  rintro _ w10 ⟨rfl, x10⟩
  try dsimp only [dI_i64, dI_u8, dI_u16, dI_u32, dB_bool, dS_slice, dP_ptr, dT_tup, dA_agg, dStr_str, dF_f, dC_c, dM_m, optP_some, ga0, ga1, ga2, ga3, ga4, cond_true, cond_false, chk_true, Bool.not_true, Bool.not_false, Option.isNone_none, Option.isNone_some, List.toList_toArray]
  rw [cond_pos (by decide)]
  refine callP.use (Len_none w10) ?_
  rintro _ w12 ⟨rfl, rfl⟩
  try dsimp only [dI_i64, dI_u8, dI_u16, dI_u32, dB_bool, dS_slice, dP_ptr, dT_tup, dA_agg, dStr_str, dF_f, dC_c, dM_m, optP_some, ga0, ga1, ga2, ga3, ga4, cond_true, cond_false, chk_true, Bool.not_true, Bool.not_false, Option.isNone_none, Option.isNone_some, List.toList_toArray]
  exact Ret.mk ⟨rfl, (X7.trans x8).trans x10⟩
end Go.Proofs.Ytpbnjjjglbnnpaa.G
