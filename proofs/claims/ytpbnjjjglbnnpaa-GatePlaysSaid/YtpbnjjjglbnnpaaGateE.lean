/-
  The law GatePlays: the walk.
-/
import Derived.Test.YtpbnjjjglbnnpaaGateD
namespace Go.Proofs.Ytpbnjjjglbnnpaa.G
open Go.Dec Go.RowKit
set_option linter.unusedVariables false
set_option linter.unusedSimpArgs false

/-- what holds between two calls: the law's own list, and the gate -/
def PS (w : World) (B : Nat) (w' : World) (p : Option Addr) (n c : Nat) (t : Int) : Prop :=
  Ex w w' ∧ B ≤ w'.heap.size ∧ ∃ (rs : List Rq) (ys : List (Rq × Int)), n = rs.length ∧ ys.length = rs.length ∧ OwnO w' B 29 5 p n c (rs.map Rq.cells).flatten ∧ (∀ q ∈ rs, RqOk w q) ∧ GateIs w' B B ys t ∧ keys ys = rs.map key ∧ Tick ys (t - (ys.length : Int) + 1) ∧ (rs.length : Int) ≤ t
theorem PS.ex {w w' w2 : World} {B : Nat} {p : Option Addr} {n c : Nat} {t : Int} (h : PS w B w' p n c t) (hx : Ex w' w2) : PS w B w2 p n c t := by
  obtain ⟨h1, h2, rs, ys, h3, h4, h5, h6, h7, h8, h9, h10⟩ := h
  exact ⟨h1.trans hx, Nat.le_trans h2 hx.size, rs, ys, h3, h4, h5.ex hx, h6, h7.ex hx, h8, h9, h10⟩

section
variable {w : World} {B : Nat} {p0 : Option Addr} {n0 c0 : Nat} {p : Option Addr} {n c : Nat} {t5 t6 : Int}
abbrev Next (w : World) (B : Nat) (p0 : Option Addr) (n0 c0 : Nat) (t5 t6 : Int) (C1 : Option Addr → Nat → Nat → Option Addr → Option Addr → Nat → Nat → Int → Int → World → Prop) : Prop :=
  ∀ p n c t w', PS w B w' p n c t → 0 ≤ t → t ≤ t5 + 1 → C1 p0 n0 c0 (some ⟨B, 0, none⟩) p n c t (IntKind.i64.wrap (t6 + 1)) w'
variable {C1 : Option Addr → Nat → Nat → Option Addr → Option Addr → Nat → Nat → Int → Int → World → Prop}
abbrev RR (w : World) : Ending → World → Prop := Ret fun v w' => v = .bool true ∧ Ex w w'

theorem len_same (hC : Next w B p0 n0 c0 t5 t6 C1) (ht : 0 ≤ t5) {w2 : World} (h : PS w B w2 p n c t5) :
    callP Try.prog 14 #[(Value.pointer (some (⟨B, 0, none⟩ : Addr)))] w2 (fun v w23 => dI .i64 v fun x => cond (x != ((n : Nat) : Int)) (RR w (.returned (Value.bool false)) w23) (C1 p0 n0 c0 (some ⟨B, 0, none⟩) p n c t5 (IntKind.i64.wrap (t6 + 1)) w23)) (fun ch w24 => RR w (.panicked ch) w24) := by
  have h' := h
  obtain ⟨h1, h2, rs, ys, rfl, h4, h5, h6, h7, h8, h9, h10⟩ := h'
  refine callP.use (Len_spec h7) ?_
  rintro _ w3 ⟨rfl, rfl⟩
  try dsimp only [dI_i64, dI_u8, dI_u16, dI_u32, dB_bool, dS_slice, dP_ptr, dT_tup, dA_agg, dStr_str, dF_f, dC_c, dM_m, optP_some, ga0, ga1, ga2, ga3, ga4, cond_true, cond_false, chk_true, Bool.not_true, Bool.not_false, Option.isNone_none, Option.isNone_some, List.toList_toArray]
  rw [cond_neg (by simp [h4])]
  exact hC _ _ _ _ _ h ht (by omega)

theorem k4_no (hC : Next w B p0 n0 c0 t5 t6 C1) (ht : 0 ≤ t5) {w2 : World} (h : PS w B w2 p n c t5) {t9 : Int} (h9 : t9 ≠ 0) (t7 : Nat) (t8 t27 : Int) (t28 : Bool) (t86 : Addr) (t87 : Array Value) (t88 : Int) (t89 t90 t93 : Bool) :
    stopcocklaw19_GatePlays.k4 p0 n0 c0 (some ⟨B, 0, none⟩) p n c t5 t6 t7 t8 t9 t27 t28 t86 t87 t88 t89 t90 t93 w2 (RR w) C1 := by
  unfold stopcocklaw19_GatePlays.k4
  rw [cond_pos (by simpa using h9)]
  exact len_same hC ht h

/-- Submit took it: the law's own list grows -/
theorem k4_yes (hC : Next w B p0 n0 c0 t5 t6 C1) (ht : 0 ≤ t5 ∧ t5 < 1000) {w2 : World} {rs : List Rq} {ys : List (Rq × Int)} (hx : Ex w w2) (hB : B ≤ w2.heap.size) (hwB : w.heap.size ≤ B) (hl : ys.length = rs.length) (hlt : rs.length < 16) (o : OwnO w2 B 29 5 p rs.length c (rs.map Rq.cells).flatten) (hrs : ∀ q ∈ rs, RqOk w q) {q : Rq} (hq : RqOk w q) {r' : Rq} (hlk : like r' q)
    (hG : GateIs w2 B B (ys ++ [(r', t5 + 1)]) (t5 + 1)) (hk : keys ys = rs.map key) (hle : (rs.length : Int) ≤ t5) (htick : Tick ys (t5 - (ys.length : Int) + 1)) {t7 : Nat} {what : Int} {b : Nat} (o7 : Own w2 b 31 6 (some ⟨t7, 0, none⟩) 1 1 (.int .i64 what :: q.cells)) (t27 : Int) (t28 : Bool) (t86 : Addr) (t87 : Array Value) (t88 : Int) (t89 t90 t93 : Bool) :
    stopcocklaw19_GatePlays.k4 p0 n0 c0 (some ⟨B, 0, none⟩) p rs.length c t5 t6 t7 (t5 + 1) 0 t27 t28 t86 t87 t88 t89 t90 t93 w2 (RR w) C1 := by
  unfold stopcocklaw19_GatePlays.k4
  rw [cond_neg (by decide), w64 (x := t5 + 1) (by omega) (by omega), cond_neg (by simp)]
  have hc7 : CellsAt w2 (⟨t7, 1, none⟩ : Addr) q.cells := by
    have := CellsAt.drop (a := ⟨t7, 0, none⟩) o7.cells 1
    rwa [addr1] at this
  refine ⟨q.cells.toArray, rfl, hc7, optP_of (fill_one _ _ _ _ _ _ _) ?_⟩
  rintro b3 w8 rfl rfl
  have x8 := Ex.alloc w2 (.cells q.cells.toArray 29)
  have c8 : CellsO (w2.alloc (.cells q.cells.toArray 29)) (some ⟨w2.heap.size, 0, none⟩) q.cells := CellsO.alloc _ 29
  unfold Rq.cells at x8 c8
  generalize w2.alloc (.cells #[.int .i64 q.k, .int .i64 q.v, .int .i64 q.b, .int .i64 q.s, .slice q.p q.n q.c] 29) = w8 at x8 c8 ⊢
  have o8 := o.ex x8
  have G8 := hG.ex x8
  refine appP_ownO o8 (Nat.le_trans hB x8.size) _ c8 rfl five_one rfl (by omega) (by omega) (fun p2 c2 w9 o9 k9 => ?_)
  have t29 : ∀ i, (∃ x, p = some x ∧ x.block = i) → Typed w8 29 i := fun i ⟨x, hx, hi⟩ => hi ▸ (o8.typed hx).1
  have X9 : Ex w w9 := (hx.trans x8).then k9 fun i ⟨x, hx, hi⟩ => by
    have := (o8.typed hx).2.1
    omega
  have G9 : GateIs w9 B B (ys ++ [(r', t5 + 1)]) (t5 + 1) := by
    obtain ⟨qq, cc, h1, h2, h3⟩ := G8
    exact ⟨qq, cc, h1.away k9 29 t29 (by decide), h2.away k9 29 t29 (by decide), fun x hx => ⟨(h3 x hx).1.away k9 29 t29 (by decide), (h3 x hx).2⟩⟩
  refine callP.use (Len_spec G9) ?_
  rintro _ w10 ⟨rfl, rfl⟩
  try dsimp only [dI_i64, dI_u8, dI_u16, dI_u32, dB_bool, dS_slice, dP_ptr, dT_tup, dA_agg, dStr_str, dF_f, dC_c, dM_m, optP_some, ga0, ga1, ga2, ga3, ga4, cond_true, cond_false, chk_true, Bool.not_true, Bool.not_false, Option.isNone_none, Option.isNone_some, List.toList_toArray]
  rw [cond_neg (by simp [hl])]
  refine hC _ _ _ _ _ ⟨X9, Nat.le_trans hB (Nat.le_trans x8.size k9.size), rs ++ [q], ys ++ [(r', t5 + 1)], by simp, by simp [hl], ?_, ?_, G9, ?_, ?_, by simp; omega⟩ (by omega) (by omega)
  · simpa [Rq.cells] using o9
  · intro x hx
    rcases List.mem_append.1 hx with hx | hx
    · exact hrs x hx
    · simp only [List.mem_singleton] at hx
      rw [hx]
      exact hq
  · simp only [keys, List.map_append, List.map_cons, List.map_nil] at hk ⊢
    rw [hk, key_of_like hlk]
  · have := htick.push (y := (r', t5 + 1)) (by dsimp only; omega)
    rw [List.length_append]
    rwa [show t5 + 1 - ((ys.length + [(r', t5 + 1)].length : Nat) : Int) + 1 = t5 - (ys.length : Int) + 1 by simp; omega]

theorem k1_spec (hC : Next w B p0 n0 c0 t5 t6 C1) (ht : 0 ≤ t5 ∧ t5 < 1000) (hwB : w.heap.size ≤ B) {w2 : World} (h : PS w B w2 p n c t5) {t7 : Nat} {what : Int} {b : Nat} {q : Rq} (hq : RqOk w q) (o7 : Own w2 b 31 6 (some ⟨t7, 0, none⟩) 1 1 (.int .i64 what :: q.cells)) (t27 : Int) (t28 t58 : Bool) :
    stopcocklaw19_GatePlays.k1 p0 n0 c0 (some ⟨B, 0, none⟩) p n c t5 t6 t7 t27 t28 what t58 w2 (RR w) C1 := by
  have h' := h
  obtain ⟨h1, h2, rs, ys, rfl, h4, h5, h6, h7, h8, h9, h10⟩ := h'
  unfold stopcocklaw19_GatePlays.k1
  refine cond_of (fun _ => ?_) (fun _ => cond_of (fun _ => ?_) (fun _ => ?_))
  · have hc7 : ∀ {w2 : World}, Own w2 b 31 6 (some ⟨t7, 0, none⟩) 1 1 (.int .i64 what :: q.cells) → CellsAt w2 (⟨t7, 1, none⟩ : Addr) q.cells := fun o7 => by
      have := CellsAt.drop (a := ⟨t7, 0, none⟩) o7.cells 1
      rwa [addr1] at this
    refine ⟨q.cells.toArray, rfl, hc7 o7, ?_⟩
    refine callP.use (Submit_spec h7 h2 h1 hwB q hq (by omega)) ?_
    rintro _ w7 hcase
    rcases hcase with ⟨hb, rfl, x7⟩ | ⟨hg, hn, rfl, x7⟩ | ⟨hg, hn, rfl, k7, r', hlk, G7⟩
    · try dsimp only [dI_i64, dI_u8, dI_u16, dI_u32, dB_bool, dS_slice, dP_ptr, dT_tup, dA_agg, dStr_str, dF_f, dC_c, dM_m, optP_some, ga0, ga1, ga2, ga3, ga4, cond_true, cond_false, chk_true, Bool.not_true, Bool.not_false, Option.isNone_none, Option.isNone_some, List.toList_toArray]
      have o7' := o7.ex x7
      have hP := h.ex x7
      have go : stopcocklaw19_GatePlays.k2 p0 n0 c0 (some ⟨B, 0, none⟩) p rs.length c t5 t6 t7 0 1 0 t27 t28 true w7 (RR w) C1 := by
        unfold stopcocklaw19_GatePlays.k2
        rw [cond_pos rfl]
        unfold stopcocklaw19_GatePlays.k3
        rw [cond_neg (by decide)]
        refine ⟨q.cells.toArray, rfl, hc7 o7', ?_⟩
        refine callP.use (Check_spec q w7) ?_
        rintro _ w9 ⟨hv, x9⟩
        rcases hv with ⟨hg, _⟩ | ⟨_, rfl⟩
        · exact absurd hg hb
        try dsimp only [dI_i64, dI_u8, dI_u16, dI_u32, dB_bool, dS_slice, dP_ptr, dT_tup, dA_agg, dStr_str, dF_f, dC_c, dM_m, optP_some, ga0, ga1, ga2, ga3, ga4, cond_true, cond_false, chk_true, Bool.not_true, Bool.not_false, Option.isNone_none, Option.isNone_some, List.toList_toArray]
        rw [cond_neg (by decide)]
        exact k4_no hC ht.1 (hP.ex x9) (by decide) _ _ _ _ _ _ _ _ _ _
      refine ⟨_, o7'.at (j := 1) rfl, cond_of (fun _ => go) (fun hlo => ?_)⟩
      have hlo := of_decide_eq_false hlo
      refine ⟨_, o7'.at (j := 1) rfl, ?_⟩
      rw [decide_eq_true (by unfold good at hb; omega)]
      exact go
    · try dsimp only [dI_i64, dI_u8, dI_u16, dI_u32, dB_bool, dS_slice, dP_ptr, dT_tup, dA_agg, dStr_str, dF_f, dC_c, dM_m, optP_some, ga0, ga1, ga2, ga3, ga4, cond_true, cond_false, chk_true, Bool.not_true, Bool.not_false, Option.isNone_none, Option.isNone_some, List.toList_toArray]
      have o7' := o7.ex x7
      have hP := h.ex x7
      unfold good at hg
      refine ⟨_, o7'.at (j := 1) rfl, ?_⟩
      rw [condd_neg (by omega)]
      refine ⟨_, o7'.at (j := 1) rfl, ?_⟩
      rw [decide_eq_false (by omega)]
      unfold stopcocklaw19_GatePlays.k2
      rw [cond_neg rfl, condd_pos (by omega)]
      unfold stopcocklaw19_GatePlays.k3
      rw [cond_neg (by decide)]
      refine ⟨q.cells.toArray, rfl, hc7 o7', ?_⟩
      refine callP.use (Check_spec q w7) ?_
      rintro _ w9 ⟨hv, x9⟩
      rcases hv with ⟨_, rfl⟩ | ⟨hb, _⟩
      · try dsimp only [dI_i64, dI_u8, dI_u16, dI_u32, dB_bool, dS_slice, dP_ptr, dT_tup, dA_agg, dStr_str, dF_f, dC_c, dM_m, optP_some, ga0, ga1, ga2, ga3, ga4, cond_true, cond_false, chk_true, Bool.not_true, Bool.not_false, Option.isNone_none, Option.isNone_some, List.toList_toArray]
        rw [cond_pos (by decide), cond_neg (by decide)]
        exact k4_no hC ht.1 (hP.ex x9) (by decide) _ _ _ _ _ _ _ _ _ _
      · exact absurd hg hb
    · try dsimp only [dI_i64, dI_u8, dI_u16, dI_u32, dB_bool, dS_slice, dP_ptr, dT_tup, dA_agg, dStr_str, dF_f, dC_c, dM_m, optP_some, ga0, ga1, ga2, ga3, ga4, cond_true, cond_false, chk_true, Bool.not_true, Bool.not_false, Option.isNone_none, Option.isNone_some, List.toList_toArray]
      have o7' := Own.mod o7 k7 (by decide) (by decide)
      have hg' := hg
      unfold good at hg'
      refine ⟨_, o7'.at (j := 1) rfl, ?_⟩
      rw [condd_neg (by omega)]
      refine ⟨_, o7'.at (j := 1) rfl, ?_⟩
      rw [decide_eq_false (by omega)]
      unfold stopcocklaw19_GatePlays.k2
      rw [cond_neg rfl, condd_neg (by omega)]
      unfold stopcocklaw19_GatePlays.k3
      rw [cond_neg (by decide)]
      refine ⟨q.cells.toArray, rfl, hc7 o7', ?_⟩
      refine callP.use (Check_spec q w7) ?_
      rintro _ w9 ⟨hv, x9⟩
      rcases hv with ⟨_, rfl⟩ | ⟨hb, _⟩
      · try dsimp only [dI_i64, dI_u8, dI_u16, dI_u32, dB_bool, dS_slice, dP_ptr, dT_tup, dA_agg, dStr_str, dF_f, dC_c, dM_m, optP_some, ga0, ga1, ga2, ga3, ga4, cond_true, cond_false, chk_true, Bool.not_true, Bool.not_false, Option.isNone_none, Option.isNone_some, List.toList_toArray]
        rw [cond_pos (by decide), cond_neg (by decide)]
        have X7 : Ex w w7 := h1.then k7 fun i hi => Nat.le_trans hwB hi.1
        exact k4_yes hC ht (X7.trans x9) (Nat.le_trans h2 (Nat.le_trans k7.size x9.size)) hwB h4 (by omega) ((OwnO.mod h5 k7 (by decide) (by decide)).ex x9) h6 hq hlk (G7.ex x9) h8 h10 h9 (o7'.ex x9) _ _ _ _ _ _ _ _
      · exact absurd hg hb
  · cases ys with
    | nil =>
      refine callP.use (First_nil h7) ?_
      rintro _ w13 ⟨rfl, x13⟩
      unfold zeros
      try dsimp only [dI_i64, dI_u8, dI_u16, dI_u32, dB_bool, dS_slice, dP_ptr, dT_tup, dA_agg, dStr_str, dF_f, dC_c, dM_m, optP_some, ga0, ga1, ga2, ga3, ga4, cond_true, cond_false, chk_true, Bool.not_true, Bool.not_false, Option.isNone_none, Option.isNone_some, List.toList_toArray]
      rintro b4 w15 rfl rfl
      have o15 := Own.new (w := w13) zeros 29
      have x15 := Ex.alloc w13 (.cells zeros.toArray 29)
      unfold zeros at o15 x15
      generalize w13.alloc (.cells #[.int .i64 0, .int .i64 0, .int .i64 0, .int .i64 0, .slice none 0 0] 29) = w15 at o15 x15 ⊢
      refine chkd_of rfl ?_
      try dsimp only [dI_i64, dI_u8, dI_u16, dI_u32, dB_bool, dS_slice, dP_ptr, dT_tup, dA_agg, dStr_str, dF_f, dC_c, dM_m, optP_some, ga0, ga1, ga2, ga3, ga4, cond_true, cond_false, chk_true, Bool.not_true, Bool.not_false, Option.isNone_none, Option.isNone_some, List.toList_toArray]
      refine o15.put (by rfl) five_one fun w16 k16 o16 => ?_
      have x16 : Ex w2 w16 := x13.trans (x15.then k16 fun i hi => by rw [hi]; exact Nat.le_refl _)
      have hn : rs.length = 0 := by simpa using h4.symm
      rw [cond_pos (by simp [hn]), cond_neg (by decide), cond_neg (by decide)]
      exact len_same hC ht.1 (h.ex x16)
    | cons y ys =>
      refine callP.use (First_cons h7) ?_
      rintro _ w13 ⟨p', c', rfl, x13, d13⟩
      unfold Rq.cells
      try dsimp only [dI_i64, dI_u8, dI_u16, dI_u32, dB_bool, dS_slice, dP_ptr, dT_tup, dA_agg, dStr_str, dF_f, dC_c, dM_m, optP_some, ga0, ga1, ga2, ga3, ga4, cond_true, cond_false, chk_true, Bool.not_true, Bool.not_false, Option.isNone_none, Option.isNone_some, List.toList_toArray]
      rintro b4 w15 rfl rfl
      have o15 := Own.new (w := w13) zeros 29
      have x15 := Ex.alloc w13 (.cells zeros.toArray 29)
      unfold zeros at o15 x15
      generalize w13.alloc (.cells #[.int .i64 0, .int .i64 0, .int .i64 0, .int .i64 0, .slice none 0 0] 29) = w15 at o15 x15 ⊢
      refine chkd_of rfl ?_
      try dsimp only [dI_i64, dI_u8, dI_u16, dI_u32, dB_bool, dS_slice, dP_ptr, dT_tup, dA_agg, dStr_str, dF_f, dC_c, dM_m, optP_some, ga0, ga1, ga2, ga3, ga4, cond_true, cond_false, chk_true, Bool.not_true, Bool.not_false, Option.isNone_none, Option.isNone_some, List.toList_toArray]
      refine o15.put (by rfl) five_one fun w16 k16 o16 => ?_
      have x16 : Ex w13 w16.drew := (x15.then k16 fun i hi => by rw [hi]; exact Nat.le_refl _).trans (Ex.drew w16)
      have o16 := o16.ex (Ex.drew w16)
      generalize w16.drew = w16 at x16 o16 ⊢
      have hlen : rs.length = ys.length + 1 := by simpa using h4.symm
      have hhead := h9.head
      rw [cond_neg (by rw [hlen]; simp; omega), cond_neg (by decide), hhead, w64 (x := t5 - ((rs.length : Nat) : Int)) (by omega) (by omega), w64 (by omega) (by omega), cond_neg (by simp; omega)]
      cases rs with
      | nil => simp at h4
      | cons q0 rs =>
      have X16 := x13.trans x16
      obtain ⟨a2, ha2, hc2⟩ := row5 (i := 0) (h5.ex X16).cells rfl
      rw [Nat.zero_mul, show a2.add 0 = a2 from Addr.add_zero' a2] at hc2
      refine ⟨_, rfl, o16.cells, chkd_of (by simp) (optP_of ha2 ⟨q0.cells.toArray, rfl, hc2, ?_⟩)⟩
      have h7' := h7
      obtain ⟨_, _, _, _, hsm⟩ := h7'
      have hsm := (hsm y (List.mem_cons_self ..)).2
      have hkq : key y.1 = key q0 := by
        simp only [keys, List.map_cons, List.cons.injEq] at h8
        exact h8.1
      refine callP.use (same_spec { y.1 with p := p', c := c' } q0 w16 ⟨(d13.ex x16).cells, hsm.len, hsm.few, hsm.wf⟩ ((h6 q0 (by simp)).ex (h1.trans X16))) ?_
      rintro _ w17 ⟨hv, _, x17⟩
      rw [hv (like_of_key hkq)]
      try dsimp only [dI_i64, dI_u8, dI_u16, dI_u32, dB_bool, dS_slice, dP_ptr, dT_tup, dA_agg, dStr_str, dF_f, dC_c, dM_m, optP_some, ga0, ga1, ga2, ga3, ga4, cond_true, cond_false, chk_true, Bool.not_true, Bool.not_false, Option.isNone_none, Option.isNone_some, List.toList_toArray]
      exact len_same hC ht.1 (h.ex (X16.trans x17))
  · cases ys with
    | nil =>
      refine callP.use (Done_nil h7) ?_
      rintro _ w19 ⟨rfl, x19⟩
      have hn : rs.length = 0 := by simpa using h4.symm
      try dsimp only [dI_i64, dI_u8, dI_u16, dI_u32, dB_bool, dS_slice, dP_ptr, dT_tup, dA_agg, dStr_str, dF_f, dC_c, dM_m, optP_some, ga0, ga1, ga2, ga3, ga4, cond_true, cond_false, chk_true, Bool.not_true, Bool.not_false, Option.isNone_none, Option.isNone_some, List.toList_toArray]
      rw [cond_neg (by simp [hn]), cond_pos (by decide), cond_neg (by decide), cond_neg (by decide)]
      exact len_same hC ht.1 (h.ex x19)
    | cons y ys =>
      refine callP.use (Done_cons h7) ?_
      rintro _ w19 ⟨rfl, k19, G19⟩
      have hlen : rs.length = ys.length + 1 := by simpa using h4.symm
      try dsimp only [dI_i64, dI_u8, dI_u16, dI_u32, dB_bool, dS_slice, dP_ptr, dT_tup, dA_agg, dStr_str, dF_f, dC_c, dM_m, optP_some, ga0, ga1, ga2, ga3, ga4, cond_true, cond_false, chk_true, Bool.not_true, Bool.not_false, Option.isNone_none, Option.isNone_some, List.toList_toArray]
      rw [cond_neg (by rw [hlen]; simp; omega), cond_neg (by decide), cond_pos (by decide)]
      refine chkd_of (by omega) ?_
      refine callP.use (Len_spec G19) ?_
      rintro _ w33 ⟨rfl, rfl⟩
      try dsimp only [dI_i64, dI_u8, dI_u16, dI_u32, dB_bool, dS_slice, dP_ptr, dT_tup, dA_agg, dStr_str, dF_f, dC_c, dM_m, optP_some, ga0, ga1, ga2, ga3, ga4, cond_true, cond_false, chk_true, Bool.not_true, Bool.not_false, Option.isNone_none, Option.isNone_some, List.toList_toArray]
      rw [cond_neg (by simp [hlen])]
      cases rs with
      | nil => simp at h4
      | cons q0 rs =>
      refine hC _ _ _ _ _ ⟨h1.then k19 fun i hi => Nat.le_trans hwB hi.1, Nat.le_trans h2 k19.size, rs, ys, by simp, by simpa using h4, ?_, fun q hq => h6 q (List.mem_cons_of_mem _ hq), G19, ?_, ?_, by simp only [List.length_cons] at h10; omega⟩ ht.1 (by omega)
      · have := (OwnO.mod h5 k19 (by decide) (by decide)).tail (by simp) (by decide)
        rw [flatten_drop _ (fun r hr => by obtain ⟨q, _, rfl⟩ := List.mem_map.1 hr; rfl)] at this
        simpa using this
      · simp only [keys, List.map_cons, List.cons.injEq] at h8
        exact h8.2
      · have := h9.pop
        rwa [show t5 - (((y :: ys).length : Nat) : Int) + 1 + 1 = t5 - (ys.length : Int) + 1 by simp; omega] at this
end

def actLine : Line := .int .i64 reqLine
def actCells (x : Int × Rq) : List Value := .int .i64 x.1 :: x.2.cells
theorem acts_of {w : World} : ∀ {rows : List (List Value)}, (∀ r ∈ rows, LineIs w (fun b c => c * b ≤ 140737488351232) actLine r) → ∃ rs : List (Int × Rq), rows = rs.map actCells ∧ ∀ q ∈ rs, RqOk w q.2
  | [], _ => ⟨[], rfl, by simp⟩
  | r :: rows, h => by
    obtain ⟨a, t, rfl, _, ht⟩ := h r (by simp)
    obtain ⟨q, rfl, hq, _⟩ := rq_of_line ht
    obtain ⟨rs, rfl, hrs⟩ := acts_of (rows := rows) fun x hx => h x (List.mem_cons_of_mem _ hx)
    exact ⟨(a, q) :: rs, rfl, fun x hx => by
      rcases List.mem_cons.1 hx with rfl | hx
      · exact hq
      · exact hrs x hx⟩
theorem act_one (x : Int × Rq) : ∀ y ∈ actCells x, y.oneCell' = true := by
  intro y hy
  simp only [actCells, Rq.cells, List.mem_cons, List.not_mem_nil, or_false] at hy
  rcases hy with rfl | rfl | rfl | rfl | rfl | rfl <;> rfl

theorem GatePlays_row (p0 : Option Addr) (n0 c0 : Nat) (rows : List (List Value)) (w : World) (hl : SlIs w (fun b c => c * b ≤ 140737488351232) 64 (LineIs w (fun b c => c * b ≤ 140737488351232) actLine) p0 n0 c0 rows) :
    stopcocklaw19_GatePlays.C p0 n0 c0 w (Ret fun v w' => v = .bool true ∧ Ex w w') := by
  obtain ⟨ls, rfl, hls⟩ := acts_of hl.each
  have hlc := hl.cells
  have hln : ls.length = n0 := by simpa using hl.size
  apply stopcocklaw19_GatePlays.ok
  unfold stopcocklaw19_GatePlays.main
  refine callP.use (New_spec w) ?_
  rintro _ w1 ⟨rfl, x1, G1⟩
  have hB1 : w.heap.size ≤ w1.heap.size := x1.size
  generalize hB : w.heap.size = B at G1 hB1
  have hBB : w.heap.size ≤ B := Nat.le_of_eq hB
  try dsimp only [dI_i64, dI_u8, dI_u16, dI_u32, dB_bool, dS_slice, dP_ptr, dT_tup, dA_agg, dStr_str, dF_f, dC_c, dM_m, optP_some, ga0, ga1, ga2, ga3, ga4, cond_true, cond_false, chk_true, Bool.not_true, Bool.not_false, Option.isNone_none, Option.isNone_some, List.toList_toArray]
  refine callP.use (awake_spec w1) ?_
  rintro _ w3 ⟨rfl, x3⟩
  try dsimp only [dI_i64, dI_u8, dI_u16, dI_u32, dB_bool, dS_slice, dP_ptr, dT_tup, dA_agg, dStr_str, dF_f, dC_c, dM_m, optP_some, ga0, ga1, ga2, ga3, ga4, cond_true, cond_false, chk_true, Bool.not_true, Bool.not_false, Option.isNone_none, Option.isNone_some, List.toList_toArray]
  refine ⟨fun t0p t0n t0c t3 t4p t4n t4c t5 t6 w' => p0 = t0p ∧ n0 = t0n ∧ c0 = t0c ∧ t3 = some ⟨B, 0, none⟩ ∧ 0 ≤ t6 ∧ t6 ≤ 100 ∧ PS w B w' t4p t4n t4c t5 ∧ 0 ≤ t5 ∧ t5 ≤ t6,
    fun t0p t0n t0c t3 t4p t4n t4c t5 t6 w' => (100 - t6).toNat, ?_, ?_⟩
  · exact ⟨rfl, rfl, rfl, rfl, by omega, by omega, ⟨x1.trans x3, Nat.le_trans hB1 x3.size, [], [], rfl, rfl, OwnO.nil _ _ _ _, by simp, G1.ex x3, rfl, fun j x h => by simp at h, by simp⟩, by omega, by omega⟩
  clear x3 G1 hB1 x1
  rintro _ _ _ _ t4p t4n t4c t5 t6 w1 ⟨rfl, rfl, rfl, rfl, ht0, ht1, hP, ht2, ht3⟩
  unfold stopcocklaw19_GatePlays.b1
  refine cond_of (fun hc => ?_) (fun _ => Ret.mk ⟨rfl, hP.1⟩)
  have hc := of_decide_eq_true hc
  refine cond_of (fun hc2 => ?_) (fun _ => Ret.mk ⟨rfl, hP.1⟩)
  have hc2 := of_decide_eq_true hc2
  obtain ⟨q, hq, hqm⟩ := getE (l := ls) (i := t6.toNat) (by omega)
  obtain ⟨a1, ha1, hc1⟩ := (hlc.ex hP.1).row (k := 6) (fun r hr => by obtain ⟨q, _, rfl⟩ := List.mem_map.1 hr; rfl) (by decide) (i := t6.toNat) (r := actCells q) (by rw [List.getElem?_map, hq]; rfl)
  refine chkd_of ht0 (chkd_of hc (optP_of ha1 ⟨(actCells q).toArray, rfl, hc1, ?_⟩))
  rintro b2 w5 rfl rfl
  have o5 := Own.new (w := w1) [.int .i64 0, .int .i64 0, .int .i64 0, .int .i64 0, .int .i64 0, .slice none 0 0] 31
  have x5 := Ex.alloc w1 (.cells #[.int .i64 0, .int .i64 0, .int .i64 0, .int .i64 0, .int .i64 0, .slice none 0 0] 31)
  generalize w1.alloc (.cells #[.int .i64 0, .int .i64 0, .int .i64 0, .int .i64 0, .int .i64 0, .slice none 0 0] 31) = w5 at o5 x5 ⊢
  refine chkd_of rfl ?_
  try dsimp only [dI_i64, dI_u8, dI_u16, dI_u32, dB_bool, dS_slice, dP_ptr, dT_tup, dA_agg, dStr_str, dF_f, dC_c, dM_m, optP_some, ga0, ga1, ga2, ga3, ga4, cond_true, cond_false, chk_true, Bool.not_true, Bool.not_false, Option.isNone_none, Option.isNone_some, List.toList_toArray]
  refine o5.put (by rfl) (act_one q) fun w6 k6 o6 => ?_
  have x6 : Ex w1 w6 := x5.then k6 fun i hi => by rw [hi]; exact Nat.le_refl _
  have hP6 := hP.ex x6
  have o6' : Own w6 w1.heap.size 31 6 (some ⟨w1.heap.size, 0, none⟩) 1 1 (.int .i64 q.1 :: q.2.cells) := o6
  have key : ∀ C1, Next w B p0 n0 c0 t5 t6 C1 → ∀ t58, stopcocklaw19_GatePlays.k1 p0 n0 c0 (some ⟨B, 0, none⟩) t4p t4n t4c t5 t6 w1.heap.size t6 (decide (t6 < 100)) q.1 t58 w6 (RR w) C1 := fun C1 hC t58 =>
    k1_spec hC ⟨ht2, by omega⟩ hBB hP6 (hls q hqm) o6' _ _ _
  refine ⟨_, o6'.at (j := 0) rfl, cond_of (fun _ => key _ ?_ _) (fun _ => cond_of (fun _ => key _ ?_ _) (fun _ => key _ ?_ _))⟩
  all_goals
    intro p n c t w' hp h0 h1
    rw [w64 (by omega) (by omega)]
    exact ⟨⟨rfl, rfl, rfl, rfl, by omega, by omega, hp, h0, by omega⟩, by omega⟩
end Go.Proofs.Ytpbnjjjglbnnpaa.G
