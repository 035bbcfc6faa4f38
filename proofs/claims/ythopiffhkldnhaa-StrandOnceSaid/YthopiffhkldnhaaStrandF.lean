/-
  The law StrandFrees: the walk.
-/
import Derived.Test.YthopiffhkldnhaaStrandE
namespace Go.Proofs.Ythopiffhkldnhaa.G
open Go.Dec Go.RowKit
set_option linter.unusedVariables false
set_option linter.unusedSimpArgs false

theorem tmod_of {x m : Int} (h : 0 ≤ x) : Int.tmod x m = x % m := Int.tmod_eq_emod_of_nonneg h
theorem next_turn {s : St} {x : Int} {r : List Int} (hl : s.free = x :: r) (hf : full s = true) : next s 0 = ({ s with head := x, used := 1, free := r }, 0, x, 0) := by
  unfold next
  rw [if_neg (by omega), if_pos (by unfold room; rw [hf, hl]; simp only [List.length_cons]; simp <;> omega)]
  unfold turn
  rw [hf, if_pos rfl, hl]
  rfl
theorem next_keep {s : St} (hf : full s = false) : next s 0 = ({ s with used := s.used + 1 }, 0, s.head, s.used) := by
  unfold next
  rw [if_neg (by omega), if_pos (by unfold room; rw [hf]; rfl)]
  unfold turn
  rw [hf, if_neg (by decide)]
theorem next_out {s : St} (hl : s.free = []) (hf : full s = true) : next s 0 = (s, 9, 0, 0) := by
  unfold next
  rw [if_neg (by omega), if_neg (by unfold room; rw [hf, hl]; decide)]
theorem filter_from : ∀ (l : List Int) (t : Int), Rises l → l.filter (fun x => decide (t ≤ x)) = (if has l t then [t] else []) ++ l.filter (fun x => decide (t + 1 ≤ x))
  | [], t, _ => rfl
  | x :: r, t, h => by
    have h1 := List.pairwise_cons.1 h
    have ih := filter_from r t h1.2
    rw [List.filter_cons, List.filter_cons]
    have hh : has (x :: r) t = (t == x || has r t) := rfl
    have all_of : t ≤ x → r.filter (fun y => decide (t ≤ y)) = r ∧ r.filter (fun y => decide (t + 1 ≤ y)) = r ∧ has r t = false := fun hx => by
      refine ⟨List.filter_eq_self.2 fun y hy => ?_, List.filter_eq_self.2 fun y hy => ?_, ?_⟩
      · have := h1.1 y hy; simp; omega
      · have := h1.1 y hy; simp; omega
      · cases hc : has r t with
        | false => rfl
        | true =>
          have := h1.1 t ((has_iff _ _).1 hc)
          omega
    rcases Int.lt_trichotomy x t with hx | hx | hx
    · rw [decide_eq_false (show ¬ t ≤ x by omega), decide_eq_false (show ¬ t + 1 ≤ x by omega)]
      simp only [Bool.false_eq_true, if_false]
      rw [ih, hh, show (t == x) = false by simp; omega, Bool.false_or]
    · obtain ⟨a1, a2, a3⟩ := all_of (by omega)
      subst hx
      rw [decide_eq_true (show x ≤ x by omega), decide_eq_false (show ¬ x + 1 ≤ x by omega)]
      simp only [Bool.false_eq_true, if_false, if_true]
      rw [a1, a2, hh]
      simp
    · obtain ⟨a1, a2, a3⟩ := all_of (by omega)
      rw [decide_eq_true (show t ≤ x by omega), decide_eq_true (show t + 1 ≤ x by omega), if_pos rfl, if_pos rfl, a1, a2, hh, a3]
      rw [show (t == x) = false by simp; omega]
      rfl
theorem has_cons (a : Int) (l : List Int) (x : Int) : has (a :: l) x = (x == a || has l x) := rfl

/-- a Strand that stands on its own -/
def One (w0 w : World) (ps : Nat) (s : St) : Prop := Good s ∧ Ex w0 w ∧ ∃ D, SIs w w0.heap.size ps s D
theorem One.ex {w0 w w' : World} {ps : Nat} {s : St} (h : One w0 w ps s) (x : Ex w w') : One w0 w' ps s := by
  obtain ⟨hg, X, D, hs⟩ := h
  exact ⟨hg, X.trans x, D, hs.ex x⟩
theorem One.apart {w0 w w' : World} {ps : Nat} {s : St} {S : Nat → Prop} (h : One w0 w ps s) (k : Kp w w' S) {e : TypeId} (hS : ∀ i, S i → Typed w e i ∧ w0.heap.size ≤ i) (h1 : e ≠ 57) (h2 : e ≠ 3) : One w0 w' ps s := by
  obtain ⟨hg, X, D, hs⟩ := h
  refine ⟨hg, X.then k fun i hi => (hS i hi).2, D, hs.kp k fun i hi hd => ?_⟩
  rcases (hs.typed hi).1 with a | a
  · exact a.ne (hS i hd).1 (fun e => h1 e.symm) rfl
  · exact a.ne (hS i hd).1 (fun e => h2 e.symm) rfl
theorem One.next {w0 w : World} {ps : Nat} {s : St} (h : One w0 w ps s) (k : Int) : strand_Strand_Next.C (some ⟨ps, 0, none⟩) k w (Ret fun v w' => v = .tuple #[.complex .f64 (fl (next s k).2.2.1) (fl (next s k).2.2.2), .int .i64 (next s k).2.1] ∧ One w0 w' ps (next s k).1 ∧
    ∀ {B' : Nat} {e : TypeId} {sz : Nat} {p : Option Addr} {n c : Nat} {xs : List Value}, Own w B' e sz p n c xs → e ≠ 57 → e ≠ 3 → Own w' B' e sz p n c xs) := by
  obtain ⟨hg, X, D, hs⟩ := h
  refine Calls.mono (Next_spec hs hg X.size k) ?_
  rintro e w' ⟨v, rfl, rfl, D', hs', k', hD'⟩
  exact ⟨_, rfl, rfl, ⟨next_good hg k, X.then k' fun i hi => (hs.typed hi).2.1, D', hs'⟩, fun o h1 h2 => hs.off k' o h1 h2⟩
theorem One.free {w0 w : World} {ps : Nat} {s : St} (h : One w0 w ps s) (k : Int) : strand_Strand_Free.C (some ⟨ps, 0, none⟩) k w (Ret fun v w' => v = .int .i64 (freed s k).2 ∧ One w0 w' ps (freed s k).1 ∧
    ∀ {B' : Nat} {e : TypeId} {sz : Nat} {p : Option Addr} {n c : Nat} {xs : List Value}, Own w B' e sz p n c xs → e ≠ 57 → e ≠ 3 → Own w' B' e sz p n c xs) := by
  obtain ⟨hg, X, D, hs⟩ := h
  refine Calls.mono (Free_spec hs hg X.size k) ?_
  rintro e w' ⟨v, rfl, rfl, D', hs', k', hD'⟩
  exact ⟨_, rfl, rfl, ⟨freed_good hg k, X.then k' fun i hi => (hs.typed hi).2.1, D', hs'⟩, fun o h1 h2 => hs.off k' o h1 h2⟩

theorem StrandFrees_row (a : Int) (p1 : Option Addr) (n1 c1 : Nat) (xs : List Int) (w : World) (ha : 0 ≤ a ∧ a < 256) (i1 : Ints .u8 w p1 n1 c1 xs) (m1 : c1 * 1 ≤ 140737488351232) :
    stopcocklaw16_StrandFrees.C a p1 n1 c1 w (Ret fun v w' => v = .bool true ∧ Ex w w') := by
  apply stopcocklaw16_StrandFrees.ok
  unfold stopcocklaw16_StrandFrees.main
  have e0 : IntKind.i64.wrap (6 + IntKind.i64.wrap (Int.tmod a 19)) = 6 + a % 19 := by
    rw [tmod_of ha.1, w64 (x := a % 19) (by omega) (by omega), w64 (by omega) (by omega)]
  rw [e0]
  generalize hN : 6 + a % 19 = N
  have hNr : 6 ≤ N ∧ N ≤ 24 := by omega
  rintro b1 w1 rfl rfl
  have o1 := Own.new (w := w) [.int .i64 0, .int .i64 0] 23
  have x1 := Ex.alloc w (.cells #[.int .i64 0, .int .i64 0] 23)
  generalize w.alloc (.cells #[.int .i64 0, .int .i64 0] 23) = w1 at o1 x1 ⊢
  refine o1.put (by rfl) pair_one fun w2 k2 o2 => ?_
  have x2 : Ex w w2 := x1.then k2 fun i hi => by rw [hi]; exact Nat.le_refl _
  have o2 : Own w2 w.heap.size 23 2 (some ⟨w.heap.size, 0, none⟩) 1 1 [.int .i64 N, .int .i64 2] := o2
  refine ⟨#[.int .i64 N, .int .i64 2], rfl, o2.cells, ?_⟩
  rintro b3 w3 rfl rfl
  have c3 : CellsO (w2.alloc (.cells #[.int .i64 3] 3)) (some ⟨w2.heap.size, 0, none⟩) (i64s [3]) := CellsO.alloc (i64s [3]) 3
  have x3 := Ex.alloc w2 (.cells #[.int .i64 3] 3)
  generalize w2.alloc (.cells #[.int .i64 3] 3) = w3 at c3 x3 ⊢
  have hbeg : begun N 2 [3] = some ⟨N, 2, [3], -1, 0⟩ := by
    have hm : may N 2 = true := by simp [may]; omega
    have hf : freed (newSt N 2) 3 = (⟨N, 2, [3], -1, 0⟩, 0) := by
      unfold freed
      rw [if_neg (by simp [newSt]; omega), if_neg (by simp [newSt])]
      rfl
    unfold begun
    rw [hm, if_pos rfl, freeAll_cons, hf]
    rfl
  refine callP.use (New_spec N 2 (c := 1) w3 c3 rfl (by omega)) ?_
  rw [hbeg]
  rintro _ w4 ⟨x4, ps, rfl, hg4, D, hs4⟩
  try dsimp only [dI_i64, dI_u8, dI_u16, dI_u32, dB_bool, dS_slice, dP_ptr, dT_tup, dA_agg, dStr_str, dF_f, dC_c, dM_m, optP_some, ga0, ga1, ga2, ga3, ga4, cond_true, cond_false, chk_true, Bool.not_true, Bool.not_false, Option.isNone_none, Option.isNone_some, List.toList_toArray]
  refine callP.use (awake_spec w4) ?_
  rintro _ w6 ⟨rfl, x6⟩
  try dsimp only [dI_i64, dI_u8, dI_u16, dI_u32, dB_bool, dS_slice, dP_ptr, dT_tup, dA_agg, dStr_str, dF_f, dC_c, dM_m, optP_some, ga0, ga1, ga2, ga3, ga4, cond_true, cond_false, chk_true, Bool.not_true, Bool.not_false, Option.isNone_none, Option.isNone_some, List.toList_toArray]
  rw [cond_neg (by decide), cond_neg (by decide)]
  have X3 := x2.trans x3
  have X6 := (X3.trans x4).trans x6
  have h6 : One w w6 ps ⟨N, 2, [3], -1, 0⟩ := ⟨hg4, X6, D, by
    obtain ⟨pf, cf, q, hD⟩ := hs4.ex x6
    exact ⟨pf, cf, ⟨q.cell.lower X3.size, q.fr.lower X3.size⟩, hD⟩⟩
  have o6 := ((o2.ex x3).ex x4).ex x6
  clear hs4 c3 X6
  refine callP.use (h6.next 0) ?_
  rw [next_turn (s := ⟨N, 2, [3], -1, 0⟩) rfl rfl]
  rintro _ w8 ⟨rfl, h8, s8⟩
  try dsimp only [dI_i64, dI_u8, dI_u16, dI_u32, dB_bool, dS_slice, dP_ptr, dT_tup, dA_agg, dStr_str, dF_f, dC_c, dM_m, optP_some, ga0, ga1, ga2, ga3, ga4, cond_true, cond_false, chk_true, Bool.not_true, Bool.not_false, Option.isNone_none, Option.isNone_some, List.toList_toArray]
  rw [cond_neg (by decide), ← fl_three, ← fl_zero, fl_eq (by omega) (by omega), fl_eq (by omega) (by omega), cond_neg (by decide)]
  have o8 := s8 o6 (by decide) (by decide)
  refine callP.use (h8.free 3) ?_
  have hf3 : freed ⟨N, 2, [], 3, 1⟩ 3 = (⟨N, 2, [], 3, 1⟩, 12) := by
    unfold freed
    rw [if_neg (by dsimp only; omega), if_pos (.inl rfl)]
  rw [hf3]
  rintro _ w10 ⟨rfl, h10, s10⟩
  try dsimp only [dI_i64, dI_u8, dI_u16, dI_u32, dB_bool, dS_slice, dP_ptr, dT_tup, dA_agg, dStr_str, dF_f, dC_c, dM_m, optP_some, ga0, ga1, ga2, ga3, ga4, cond_true, cond_false, chk_true, Bool.not_true, Bool.not_false, Option.isNone_none, Option.isNone_some, List.toList_toArray]
  rw [cond_neg (by decide)]
  have o10 := s10 o8 (by decide) (by decide)
  refine ⟨N, o10.at (j := 0) rfl, chkd_of (by omega) (chkd_of (by omega) (chkd_of (by omega) ?_))⟩
  rintro b12 w12 rfl rfl
  have em : madeCells #[Value.bool false] (N.toNat * 1) = (List.replicate N.toNat (Value.bool false)).toArray := by
    have := madeCells_rep 1 (N.toNat * 1) (.bool false) (by decide)
    simpa using this
  rw [em]
  have i12 := Own.alloc (w := w10) (List.replicate N.toNat (Value.bool false)) 4 1 N.toNat (by simp)
  have x12 := Ex.alloc w10 (.cells (List.replicate N.toNat (Value.bool false)).toArray 4)
  generalize w10.alloc (.cells (List.replicate N.toNat (Value.bool false)).toArray 4) = w12 at i12 x12 ⊢
  refine chkd_of (by omega) ?_
  rw [← marks_new] at i12
  have i12 := i12.lower h10.2.1.size
  have hbi := h10.2.1.size
  generalize w10.heap.size = bi at i12 hbi ⊢
  refine i12.put1 (j := 3) (by omega) rfl fun w13 k13 i13 => ?_
  have i13 : Own w13 w.heap.size 4 1 (some ⟨bi, 0, none⟩) N.toNat N.toNat (marks N [3]) := by
    have := marks_set (n := N) (k := 3) (l := []) (m := [3]) (b := true) (by omega) (by omega) (by decide) (fun x hx => by rw [has_cons, show (x == 3) = false by simpa using hx]; rfl)
    rw [show (3 : Int).toNat = 3 by rfl] at this
    rw [this] at i13
    exact i13
  have t4 : ∀ i, i = bi → Typed w12 4 i ∧ w.heap.size ≤ i := fun i hi => hi ▸ ⟨(i12.typed rfl).1, hbi⟩
  have h13 := (h10.ex x12).apart k13 t4 (by decide) (by decide)
  have o13 := (o10.ex x12).away k13 4 (fun i hi => (t4 i hi).1) (by decide)
  clear t4 k13 i12 x12 em o10 s10 h10 hf3 o8 s8 h8 o6 h6 hbeg hg4 x6 x4 x3 o1 x1 k2
  clear D
  refine ⟨fun q m k t5 t6 tp tn tc t w' => p1 = q ∧ n1 = m ∧ c1 = k ∧ t5 = w.heap.size ∧ t6 = some ⟨ps, 0, none⟩ ∧ tp = some ⟨bi, 0, none⟩ ∧ tn = N.toNat ∧ tc = N.toNat ∧ 0 ≤ t ∧ t ≤ 60 ∧ ∃ L, One w w' ps ⟨N, 2, L, 3, 1⟩ ∧ Own w' w.heap.size 4 1 (some ⟨bi, 0, none⟩) N.toNat N.toNat (marks N (3 :: L)) ∧ Own w' w.heap.size 23 2 (some ⟨w.heap.size, 0, none⟩) 1 1 [.int .i64 N, .int .i64 2],
    fun q m k t5 t6 tp tn tc t w' => (60 - t).toNat, ?_, ?_⟩
  · exact ⟨rfl, rfl, rfl, rfl, rfl, rfl, rfl, rfl, by omega, by omega, [], h13, i13, o13⟩
  clear h13 i13 o13
  rintro _ _ _ _ _ _ _ _ t w5 ⟨rfl, rfl, rfl, rfl, rfl, rfl, rfl, rfl, h0, h60, L, h5, i5, o5⟩
  have hg5 := h5.1
  have out : stopcocklaw16_StrandFrees.k1 w.heap.size (some ⟨ps, 0, none⟩) (some ⟨bi, 0, none⟩) N.toNat N.toNat w5 (RR w) := by
    unfold stopcocklaw16_StrandFrees.k1
    refine chkd_of (by omega) ?_
    refine i5.put1 (j := 3) (by omega) rfl fun w6 k6 i6 => ?_
    have t4 : ∀ i, i = bi → Typed w5 4 i ∧ w.heap.size ≤ i := fun i hi => hi ▸ ⟨(i5.typed rfl).1, (i5.typed rfl).2.1⟩
    have h6 := h5.apart k6 t4 (by decide) (by decide)
    have o6 := o5.away k6 4 (fun i hi => (t4 i hi).1) (by decide)
    have i6 : Own w6 w.heap.size 4 1 (some ⟨bi, 0, none⟩) N.toNat N.toNat (marks N L) := by
      have := marks_set (n := N) (k := 3) (l := 3 :: L) (m := L) (b := false) (by omega) (by omega) (by
        cases hc : has L 3 with
        | false => rfl
        | true => exact absurd ((has_iff _ _).1 hc) hg5.apart) (fun x hx => by rw [has_cons, show (x == 3) = false by simpa using hx]; rfl)
      rw [show (3 : Int).toNat = 3 by rfl] at this
      rw [this] at i6
      exact i6
    refine callP.use (h6.next 0) ?_
    rw [next_keep (s := ⟨N, 2, L, 3, 1⟩) rfl]
    rintro _ w7 ⟨rfl, h7, s7⟩
    try dsimp only [dI_i64, dI_u8, dI_u16, dI_u32, dB_bool, dS_slice, dP_ptr, dT_tup, dA_agg, dStr_str, dF_f, dC_c, dM_m, optP_some, ga0, ga1, ga2, ga3, ga4, cond_true, cond_false, chk_true, Bool.not_true, Bool.not_false, Option.isNone_none, Option.isNone_some, List.toList_toArray]
    rw [cond_neg (by decide), ← fl_three, ← fl_one, fl_eq (by omega) (by omega), fl_eq (by omega) (by omega), cond_neg (by decide)]
    have i7 := s7 i6 (by decide) (by decide)
    have o7 := s7 o6 (by decide) (by decide)
    have hall : L.filter (fun x => decide (0 ≤ x)) = L := List.filter_eq_self.2 fun x hx => by have := hg5.free x hx; simp; omega
    refine ⟨fun t5 t6 tp tn tc t w' => t5 = w.heap.size ∧ t6 = some ⟨ps, 0, none⟩ ∧ tp = some ⟨bi, 0, none⟩ ∧ tn = N.toNat ∧ tc = N.toNat ∧ 0 ≤ t ∧ t ≤ N ∧ ∃ hd, One w w' ps ⟨N, 2, L.filter (fun x => decide (t ≤ x)), hd, 2⟩ ∧ Own w' w.heap.size 4 1 (some ⟨bi, 0, none⟩) N.toNat N.toNat (marks N L) ∧ Own w' w.heap.size 23 2 (some ⟨w.heap.size, 0, none⟩) 1 1 [.int .i64 N, .int .i64 2],
      fun t5 t6 tp tn tc t w' => (N - t).toNat, ?_, ?_⟩
    · refine ⟨rfl, rfl, rfl, rfl, rfl, by omega, by omega, 3, ?_, i7, o7⟩
      rw [hall]
      exact h7
    clear h7 i7 o7 h6 i6 o6 k6 t4 s7
    rintro _ _ _ _ _ t w8 ⟨rfl, rfl, rfl, rfl, rfl, h0, hN', hd, h8, i8, o8⟩
    unfold stopcocklaw16_StrandFrees.b2
    have hfull : ∀ (l : List Int) (h : Int), full ⟨N, 2, l, h, 2⟩ = true := fun l h => by unfold full; simp
    refine ⟨N, o8.at (j := 0) rfl, cond_of (fun hc => ?_) (fun hc => ?_)⟩
    · have hc := of_decide_eq_true hc
      have hcm := i8.cells t.toNat _ (marks_at L h0 (by omega))
      rw [← Nat.mul_one t.toNat] at hcm
      refine chkd_of h0 (chkd_of (by omega) ⟨_, hcm, ?_⟩)
      have hfs := filter_from L t hg5.rises
      cases hh : has L t with
      | false =>
        rw [hh, if_neg (by decide), List.nil_append] at hfs
        rw [cond_pos (by rfl), w64 (by omega) (by omega)]
        rw [hfs] at h8
        exact ⟨⟨rfl, rfl, rfl, rfl, rfl, by omega, by omega, hd, h8, i8, o8⟩, by ((try dsimp only); omega)⟩
      | true =>
        rw [hh, if_pos rfl] at hfs
        rw [cond_neg (by rfl)]
        rw [hfs] at h8
        refine callP.use (h8.next 0) ?_
        rw [next_turn (s := ⟨N, 2, [t] ++ L.filter (fun x => decide (t + 1 ≤ x)), hd, 2⟩) rfl (hfull _ _)]
        rintro _ w9 ⟨rfl, h9, s9⟩
        try dsimp only [dI_i64, dI_u8, dI_u16, dI_u32, dB_bool, dS_slice, dP_ptr, dT_tup, dA_agg, dStr_str, dF_f, dC_c, dM_m, optP_some, ga0, ga1, ga2, ga3, ga4, cond_true, cond_false, chk_true, Bool.not_true, Bool.not_false, Option.isNone_none, Option.isNone_some, List.toList_toArray]
        have h9 : One w w9 ps ⟨N, 2, L.filter (fun x => decide (t + 1 ≤ x)), t, 1⟩ := h9
        refine callP.use (h9.next 0) ?_
        rw [next_keep (s := ⟨N, 2, L.filter (fun x => decide (t + 1 ≤ x)), t, 1⟩) (by unfold full; simp; omega)]
        rintro _ w10 ⟨rfl, h10, s10⟩
        try dsimp only [dI_i64, dI_u8, dI_u16, dI_u32, dB_bool, dS_slice, dP_ptr, dT_tup, dA_agg, dStr_str, dF_f, dC_c, dM_m, optP_some, ga0, ga1, ga2, ga3, ga4, cond_true, cond_false, chk_true, Bool.not_true, Bool.not_false, Option.isNone_none, Option.isNone_some, List.toList_toArray]
        rw [cond_neg (by decide), cond_neg (by decide)]
        refine callP.use (Make_spec _ _ _) ?_
        rintro _ w11 ⟨rfl, rfl⟩
        try dsimp only [dI_i64, dI_u8, dI_u16, dI_u32, dB_bool, dS_slice, dP_ptr, dT_tup, dA_agg, dStr_str, dF_f, dC_c, dM_m, optP_some, ga0, ga1, ga2, ga3, ga4, cond_true, cond_false, chk_true, Bool.not_true, Bool.not_false, Option.isNone_none, Option.isNone_some, List.toList_toArray]
        rw [fl_eq (by omega) (by omega), fl_eq (by omega) (by omega), cond_neg (by simp)]
        refine callP.use (Make_spec _ _ _) ?_
        rintro _ w12 ⟨rfl, rfl⟩
        try dsimp only [dI_i64, dI_u8, dI_u16, dI_u32, dB_bool, dS_slice, dP_ptr, dT_tup, dA_agg, dStr_str, dF_f, dC_c, dM_m, optP_some, ga0, ga1, ga2, ga3, ga4, cond_true, cond_false, chk_true, Bool.not_true, Bool.not_false, Option.isNone_none, Option.isNone_some, List.toList_toArray]
        rw [fl_eq (by omega) (by omega), fl_eq (by omega) (by omega), cond_neg (by simp), w64 (by omega) (by omega)]
        exact ⟨⟨rfl, rfl, rfl, rfl, rfl, by omega, by omega, t, h10, s10 (s9 i8 (by decide) (by decide)) (by decide) (by decide), s10 (s9 o8 (by decide) (by decide)) (by decide) (by decide)⟩, by ((try dsimp only); omega)⟩
    · have hc := of_decide_eq_false hc
      have hnil : L.filter (fun x => decide (t ≤ x)) = [] := List.filter_eq_nil_iff.2 fun x hx => by have := hg5.free x hx; dsimp only at this; simp; omega
      rw [hnil] at h8
      unfold stopcocklaw16_StrandFrees.k2
      refine callP.use (h8.next 0) ?_
      rw [next_out (s := ⟨N, 2, [], hd, 2⟩) rfl (hfull _ _)]
      rintro _ w9 ⟨rfl, h9, s9⟩
      try dsimp only [dI_i64, dI_u8, dI_u16, dI_u32, dB_bool, dS_slice, dP_ptr, dT_tup, dA_agg, dStr_str, dF_f, dC_c, dM_m, optP_some, ga0, ga1, ga2, ga3, ga4, cond_true, cond_false, chk_true, Bool.not_true, Bool.not_false, Option.isNone_none, Option.isNone_some, List.toList_toArray]
      exact Ret.mk ⟨rfl, h9.2.1⟩
  unfold stopcocklaw16_StrandFrees.b1
  refine cond_of (fun hc => ?_) (fun _ => out)
  have hc := of_decide_eq_true hc
  refine cond_of (fun hc2 => ?_) (fun _ => out)
  have hc2 := of_decide_eq_true hc2
  clear out
  have hxl := i1.size
  obtain ⟨x, hx, hxm, _⟩ := getE (l := xs) (i := t.toNat) (by omega)
  have hxb := wf_u8' (i1.wf x hxm)
  obtain ⟨a1, rfl, hca⟩ := (i1.cells.ex h5.2.1).many (j := t.toNat) (v := .int .u8 x) (by rw [List.getElem?_map, hx]; rfl)
  rw [← Nat.mul_one t.toNat] at hca
  refine chkd_of h0 (chkd_of hc ⟨x, hca, N, o5.at (j := 0) rfl, chkd_of (by omega) fun k1 => ?_⟩)
  rw [w64 (x := x) (by omega) (by omega), tmod_of hxb.1]
  have hk0 : 0 ≤ x % N := Int.emod_nonneg _ (by omega)
  have hkN : x % N < N := Int.emod_lt_of_pos _ (by omega)
  generalize x % N = k at hk0 hkN ⊢
  have xd : Ex w5 (w5.drewN k1).drew := (Ex.drewN _ _).trans (Ex.drew _)
  have h6 := h5.ex xd
  have i6 := i5.ex xd
  have o6 := o5.ex xd
  generalize (w5.drewN k1).drew = w6 at h6 i6 o6 ⊢
  have hmk := marks_at (n := N) (3 :: L) hk0 hkN
  have hcm := i6.cells k.toNat _ hmk
  rw [← Nat.mul_one k.toNat] at hcm
  refine chkd_of hk0 (chkd_of (by omega) ⟨_, hcm, ?_⟩)
  refine callP.use (h6.free k) ?_
  have hgk := freed_good hg5 k
  rintro _ w7 ⟨rfl, h7, s7⟩
  try dsimp only [dI_i64, dI_u8, dI_u16, dI_u32, dB_bool, dS_slice, dP_ptr, dT_tup, dA_agg, dStr_str, dF_f, dC_c, dM_m, optP_some, ga0, ga1, ga2, ga3, ga4, cond_true, cond_false, chk_true, Bool.not_true, Bool.not_false, Option.isNone_none, Option.isNone_some, List.toList_toArray]
  have i7 := s7 i6 (by decide) (by decide)
  have o7 := s7 o6 (by decide) (by decide)
  have hcm7 := i7.cells k.toNat _ hmk
  rw [← Nat.mul_one k.toNat] at hcm7
  refine ⟨hcm7, ?_⟩
  obtain ⟨q1, q2, q3, q4⟩ := i7.store (j := k.toNat) (by omega) (.bool true) rfl
  have t4 : ∀ i, i = bi → Typed w7 4 i ∧ w.heap.size ≤ i := fun i hi => hi ▸ ⟨(i7.typed rfl).1, (i7.typed rfl).2.1⟩
  have h8 := h7.apart q4 t4 (by decide) (by decide)
  have o8 := o7.away q4 4 (fun i hi => (t4 i hi).1) (by decide)
  have hfree : (k = 3 ∨ k ∈ L) ∧ freed ⟨N, 2, L, 3, 1⟩ k = (⟨N, 2, L, 3, 1⟩, 12) ∧ has (3 :: L) k = true ∨ ¬ (k = 3 ∨ k ∈ L) ∧ freed ⟨N, 2, L, 3, 1⟩ k = (⟨N, 2, place k L, 3, 1⟩, 0) ∧ has (3 :: L) k = false := by
    unfold freed
    rw [if_neg (by dsimp only; omega)]
    by_cases hin : k = 3 ∨ k ∈ L
    · rw [if_pos hin]
      exact .inl ⟨hin, rfl, (has_iff _ _).2 (by simpa using hin)⟩
    · rw [if_neg hin]
      refine .inr ⟨hin, rfl, ?_⟩
      cases hc : has (3 :: L) k with
      | false => rfl
      | true => exact absurd (by simpa using (has_iff _ _).1 hc) hin
  rcases hfree with ⟨hin, e1, e2⟩ | ⟨hin, e1, e2⟩
  · rw [e1] at h8 ⊢
    rw [e2] at hcm hcm7 ⊢
    rw [cond_neg (by rfl)]
    refine chkd_of hk0 (chkd_of (by omega) ⟨q1, q2, ?_⟩)
    rintro w8 rfl
    rw [marks_set (m := 3 :: L) hk0 hkN e2 (fun y hy => rfl)] at q3
    rw [w64 (by omega) (by omega)]
    exact ⟨⟨rfl, rfl, rfl, rfl, rfl, rfl, rfl, rfl, by omega, by omega, L, h8, q3, o8⟩, by ((try dsimp only); omega)⟩
  · rw [e1] at h8 ⊢
    rw [e2] at hcm hcm7 ⊢
    rw [cond_neg (by rfl)]
    refine chkd_of hk0 (chkd_of (by omega) ⟨q1, q2, ?_⟩)
    rintro w8 rfl
    rw [marks_set (m := 3 :: place k L) hk0 hkN (by rw [has_cons, has_place]; simp) (fun y hy => by rw [has_cons, has_cons, has_place, show (y == k) = false by simpa using hy]; rfl)] at q3
    rw [w64 (by omega) (by omega)]
    exact ⟨⟨rfl, rfl, rfl, rfl, rfl, rfl, rfl, rfl, by omega, by omega, place k L, h8, q3, o8⟩, by ((try dsimp only); omega)⟩
end Go.Proofs.Ythopiffhkldnhaa.G
