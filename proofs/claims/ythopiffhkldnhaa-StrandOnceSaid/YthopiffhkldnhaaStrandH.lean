/-
  The law StrandOnce: the walk.
-/
import Derived.Test.YthopiffhkldnhaaStrandG
namespace Go.Proofs.Ythopiffhkldnhaa.G
open Go.Dec Go.RowKit
set_option linter.unusedVariables false
set_option linter.unusedSimpArgs false

theorem fl_zero_eq : fCmp .eql (fl 0) 0 = true := by rw [fl_zero]; decide +kernel
theorem at_div {h u b : Int} (hb : 2 ≤ b) (hu : 0 ≤ u ∧ u < b) : (h * b + u) / b = h ∧ (h * b + u) % b = u := by
  constructor
  · rw [Int.add_comm, Int.add_mul_ediv_right _ _ (by omega), Int.ediv_eq_zero_of_lt hu.1 hu.2, Int.zero_add]
  · rw [Int.add_comm, Int.add_mul_emod_self_right]
    exact Int.emod_eq_of_lt hu.1 hu.2
def bools (l : List Bool) : List Value := l.map Value.bool
theorem bools_len (l : List Bool) : (bools l).length = l.length := by simp [bools]
theorem made_false (n : Nat) : madeCells #[Value.bool false] (n * 1) = (bools (List.replicate n false)).toArray := by
  have := madeCells_rep 1 (n * 1) (.bool false) (by decide)
  unfold bools
  rw [List.map_replicate]
  simpa using this
theorem none_given {n : Nat} {P : Prop} {j : Nat} (h : (List.replicate n false)[j]? = some true) : P := by
  rw [List.getElem?_replicate] at h
  split at h <;> simp at h

theorem k2_spec {w0 w : World} {ps bp bi : Nat} {N b k : Int} {l F : List Int} {s0 : St} (h0 : One w0 w ps s0) (hF : s0.free = F) (hh : s0.head = -1) (hu : s0.used = 0) (hs : s0.segs = N) (hb : s0.blocks = b) (hk : 0 ≤ k ∧ k < 8) (hlF : ∀ x ∈ F, x ∈ l)
    (oi : Own w w0.heap.size 4 1 (some ⟨bi, 0, none⟩) N.toNat N.toNat (marks N l)) (op : Own w w0.heap.size 23 2 (some ⟨bp, 0, none⟩) 1 1 [.int .i64 N, .int .i64 b]) :
    stopcocklaw16_StrandOnce.k2 bp (some ⟨bi, 0, none⟩) N.toNat N.toNat (some ⟨ps, 0, none⟩) k (Want F k b) w (RR w0) := by
  unfold stopcocklaw16_StrandOnce.k2
  have hg0 := h0.1
  have hbr := hg0.blocks
  have hsr := hg0.segs
  rw [hb] at hbr
  rw [hs] at hsr
  have hFr := hg0.rises
  rw [hF] at hFr
  have hFn : F.Nodup := hFr.imp fun h => by omega
  have hFl := hg0.few
  rw [hF] at hFl
  have hFin := hg0.free
  rw [hF, hs] at hFin
  have hW0 : 0 ≤ Want F k b := by unfold Want; split <;> omega
  have hWb : Want F k b ≤ 24 * b := by
    rw [want_pos hbr.1]
    split
    · exact Int.mul_le_mul_of_nonneg_right (by omega) (by omega)
    · omega
  rintro b7 w12 rfl rfl
  rw [made_false 384]
  have og := Own.alloc (w := w) (bools (List.replicate 384 false)) 4 1 384 (by rw [bools_len, List.length_replicate])
  have x12 := Ex.alloc w (.cells (bools (List.replicate 384 false)).toArray 4)
  have hne : bi ≠ w.heap.size := by have := (oi.typed rfl).2.2; dsimp only at this; omega
  generalize w.alloc (.cells (bools (List.replicate 384 false)).toArray 4) = w12 at og x12 ⊢
  have og := og.lower h0.2.1.size
  have hbg := h0.2.1.size
  generalize w.heap.size = bg at og hne hbg ⊢
  refine ⟨fun t9 tip tin tic t14 t16 t17 tgp tgn tgc n w' => bp = t9 ∧ tip = some ⟨bi, 0, none⟩ ∧ tin = N.toNat ∧ tic = N.toNat ∧ t14 = some ⟨ps, 0, none⟩ ∧ k = t16 ∧ t17 = Want F k b ∧ tgp = some ⟨bg, 0, none⟩ ∧ tgn = 384 ∧ tgc = 384 ∧ 0 ≤ n ∧ n ≤ Want F k b ∧
    ∃ s done G, One w0 w' ps s ∧ s.segs = N ∧ s.blocks = b ∧ Giving F k s done n ∧ G.length = 384 ∧ (∀ j : Nat, G[j]? = some true → (j : Int) / b ∈ done ∧ ((j : Int) / b = s.head → (j : Int) % b < s.used)) ∧ Own w' w0.heap.size 4 1 (some ⟨bg, 0, none⟩) 384 384 (bools G) ∧ Own w' w0.heap.size 4 1 (some ⟨bi, 0, none⟩) N.toNat N.toNat (marks N l) ∧ Own w' w0.heap.size 23 2 (some ⟨bp, 0, none⟩) 1 1 [.int .i64 N, .int .i64 b],
    fun t9 tip tin tic t14 t16 t17 tgp tgn tgc n w' => (Want F k b - n).toNat, ?_, ?_⟩
  · refine ⟨rfl, rfl, rfl, rfl, rfl, rfl, rfl, rfl, rfl, rfl, by omega, hW0, s0, [], List.replicate 384 false, h0.ex x12, hs, hb, ⟨by rw [hF]; rfl, hFn, fun _ => ⟨hh, hu, rfl⟩, fun e => absurd rfl e⟩, by rw [List.length_replicate], fun j hj => none_given hj, og, oi.ex x12, op.ex x12⟩
  clear og x12 oi op h0 hF hh hu hs hb hg0 s0
  rintro _ _ _ _ _ _ _ _ _ _ n w1 ⟨rfl, rfl, rfl, rfl, rfl, rfl, rfl, rfl, rfl, rfl, hn0, hnW, s, done, G, h1, hs, hb, hgv, hG, hgiven, og, oi, op⟩
  unfold stopcocklaw16_StrandOnce.b2
  rw [condd_pos hnW]
  have hg := h1.1
  have hrw : room s k = decide (n < Want F k b) := by
    have := room_want hg hk.1 hgv (by rw [hb]; exact hnW)
    rwa [hb] at this
  obtain ⟨_, _, D, hsi⟩ := id h1
  refine callP.use (Room_spec hsi k) ?_
  rintro _ w2 ⟨rfl, x2⟩
  try dsimp only [dI_i64, dI_u8, dI_u16, dI_u32, dB_bool, dS_slice, dP_ptr, dT_tup, dA_agg, dStr_str, dF_f, dC_c, dM_m, optP_some, ga0, ga1, ga2, ga3, ga4, cond_true, cond_false, chk_true, Bool.not_true, Bool.not_false, Option.isNone_none, Option.isNone_some, List.toList_toArray]
  rw [hrw, cond_neg (by simp)]
  have h2 := h1.ex x2
  have og2 := og.ex x2
  have oi2 := oi.ex x2
  have op2 := op.ex x2
  clear hsi D og oi op h1
  refine callP.use (h2.next k) ?_
  by_cases hlt : n < Want F k b
  · have hr : room s k = true := by rw [hrw]; exact decide_eq_true hlt
    rw [next_ok hk.1 hr]
    rintro _ w3 ⟨rfl, h3, s3⟩
    try dsimp only [dI_i64, dI_u8, dI_u16, dI_u32, dB_bool, dS_slice, dP_ptr, dT_tup, dA_agg, dStr_str, dF_f, dC_c, dM_m, optP_some, ga0, ga1, ga2, ga3, ga4, cond_true, cond_false, chk_true, Bool.not_true, Bool.not_false, Option.isNone_none, Option.isNone_some, List.toList_toArray]
    rw [cond_neg (by simp; omega)]
    obtain ⟨g1, g2, g3, g4, g5⟩ := turn_good hg hk.1 hr
    have g1h := g1.head
    have g1u := g1.used
    obtain ⟨done', hgv', hin, hsub, hfresh, _⟩ := give hg hk.1 hgv hr
    have op3 := s3 op2 (by decide) (by decide)
    have oi3 := s3 oi2 (by decide) (by decide)
    have og3 := s3 og2 (by decide) (by decide)
    have hub : (turn s).used < b := by rw [← hb, ← g5]; exact g3
    have hhs : (turn s).head < N := by rw [← hs, ← g4]; exact g1h.2
    refine ⟨b, op3.at (j := 1) rfl, ?_⟩
    generalize hh : (turn s).head = hd at g2 hhs hin hfresh ⊢
    generalize hu : (turn s).used = u at g1u hub hfresh hgv' h3 ⊢
    refine callP.use (Flat_spec w3 (h := hd) (u := u) ⟨g2, by omega⟩ hbr ⟨g1u.1, hub⟩) ?_
    rintro _ w4 ⟨rfl, rfl⟩
    try dsimp only [dI_i64, dI_u8, dI_u16, dI_u32, dB_bool, dS_slice, dP_ptr, dT_tup, dA_agg, dStr_str, dF_f, dC_c, dM_m, optP_some, ga0, ga1, ga2, ga3, ga4, cond_true, cond_false, chk_true, Bool.not_true, Bool.not_false, Option.isNone_none, Option.isNone_some, List.toList_toArray]
    rw [cond_neg (by decide), cond_neg (by decide)]
    have e1 : 0 ≤ hd * b := Int.mul_nonneg g2 (by omega)
    have e2 : hd * b ≤ 23 * b := Int.mul_le_mul_of_nonneg_right (by omega) (by omega)
    obtain ⟨d1, d2⟩ := at_div (h := hd) (u := u) hbr.1 ⟨g1u.1, hub⟩
    have htd : IntKind.i64.wrap (Int.tdiv (hd * b + u) b) = hd := by rw [Int.tdiv_eq_ediv_of_nonneg (by omega), d1, w64 (by omega) (by omega)]
    generalize ha : hd * b + u = at_ at d1 d2 htd ⊢
    have ha0 : 0 ≤ at_ := by omega
    have ha1 : at_ < 384 := by omega
    have han : ((at_.toNat : Nat) : Int) = at_ := by omega
    obtain ⟨gv, hgvv, _⟩ := getE (l := G) (i := at_.toNat) (by omega)
    have hgf : gv = false := by
      cases hgt : gv with
      | false => rfl
      | true =>
        rw [hgt] at hgvv
        obtain ⟨c1, c2⟩ := hgiven _ hgvv
        rw [han, d1] at c1 c2
        rw [d2] at c2
        rcases hfresh with hf | ⟨hf1, hf2⟩
        · exact absurd c1 hf
        · have := c2 hf1
          omega
    subst hgf
    have hcg := og3.cells at_.toNat (.bool false) (by unfold bools; rw [List.getElem?_map, hgvv]; rfl)
    rw [← Nat.mul_one at_.toNat] at hcg
    refine chkd_of ha0 (chkd_of (by omega) ⟨_, hcg, ?_⟩)
    try dsimp only [dI_i64, dI_u8, dI_u16, dI_u32, dB_bool, dS_slice, dP_ptr, dT_tup, dA_agg, dStr_str, dF_f, dC_c, dM_m, optP_some, ga0, ga1, ga2, ga3, ga4, cond_true, cond_false, chk_true, Bool.not_true, Bool.not_false, Option.isNone_none, Option.isNone_some, List.toList_toArray]
    have hlm : has l hd = true := by
      refine (has_iff _ _).2 (hlF _ ?_)
      rw [hgv'.all]
      exact List.mem_append.2 (.inl hin)
    have hcm := oi3.cells hd.toNat _ (marks_at l g2 hhs)
    rw [← Nat.mul_one hd.toNat, hlm] at hcm
    refine ⟨b, op3.at (j := 1) rfl, ?_⟩
    rw [htd]
    refine chkd_of (by omega) (chkd_of g2 (chkd_of (by omega) ⟨_, hcm, ?_⟩))
    rw [cond_neg (by rfl)]
    obtain ⟨q1, q2, q3, q4⟩ := og3.store (j := at_.toNat) (by omega) (.bool true) rfl
    refine chkd_of ha0 (chkd_of (by omega) ⟨q1, q2, ?_⟩)
    rintro w5 rfl
    have t4 : ∀ i, i = bg → Typed w4 4 i ∧ w0.heap.size ≤ i := fun i hi => hi ▸ ⟨(og3.typed rfl).1, (og3.typed rfl).2.1⟩
    have h5 := h3.apart q4 t4 (by decide) (by decide)
    have op5 := op3.away q4 4 (fun i hi => (t4 i hi).1) (by decide)
    have oi5 := oi3.kp q4 fun y hy hm => by cases hy; exact hne hm
    rw [w64 (by omega) (by omega)]
    refine ⟨⟨rfl, rfl, rfl, rfl, rfl, rfl, rfl, rfl, rfl, rfl, by omega, by omega, _, done', G.set at_.toNat true, h5, by rw [← hs]; exact g4, by rw [← hb]; exact g5, ?_, by rw [List.length_set]; exact hG, fun j hj => ?_, ?_, oi5, op5⟩, by ((try dsimp only); omega)⟩
    · exact hgv'
    · rw [List.getElem?_set] at hj
      dsimp only
      rw [hh]
      split at hj
      · rename_i e
        subst e
        rw [han, d1, d2]
        exact ⟨hin, fun _ => by omega⟩
      · obtain ⟨c1, c2⟩ := hgiven j hj
        refine ⟨hsub _ c1, fun e => ?_⟩
        rw [e] at c1 c2
        rcases hfresh with hf | ⟨hf1, hf2⟩
        · exact absurd c1 hf
        · have := c2 hf1
          omega
    · unfold bools at q3 ⊢
      rw [List.map_set]
      exact q3
  · have hr : room s k = false := by rw [hrw]; exact decide_eq_false hlt
    rw [next_no hk.1 hr]
    rintro _ w3 ⟨rfl, h3, s3⟩
    try dsimp only [dI_i64, dI_u8, dI_u16, dI_u32, dB_bool, dS_slice, dP_ptr, dT_tup, dA_agg, dStr_str, dF_f, dC_c, dM_m, optP_some, ga0, ga1, ga2, ga3, ga4, cond_true, cond_false, chk_true, Bool.not_true, Bool.not_false, Option.isNone_none, Option.isNone_some, List.toList_toArray]
    have : n = Want F k b := by omega
    rw [this, cond_pos (by simp), cond_pos (by decide), fl_zero_eq]
    exact Ret.mk ⟨rfl, h3.2.1⟩

theorem StrandOnce_row (a b0 sp : Int) (p3 : Option Addr) (n3 c3 : Nat) (xs : List Int) (w : World) (ha : 0 ≤ a ∧ a < 256) (hb0 : 0 ≤ b0 ∧ b0 < 256) (hsp : 0 ≤ sp ∧ sp < 256) (i1 : Ints .u8 w p3 n3 c3 xs) (m1 : c3 * 1 ≤ 140737488351232) :
    stopcocklaw16_StrandOnce.C a b0 sp p3 n3 c3 w (Ret fun v w' => v = .bool true ∧ Ex w w') := by
  apply stopcocklaw16_StrandOnce.ok
  unfold stopcocklaw16_StrandOnce.main
  have e0 : IntKind.i64.wrap (6 + IntKind.i64.wrap (Int.tmod a 19)) = 6 + a % 19 := by
    rw [tmod_of ha.1, w64 (x := a % 19) (by omega) (by omega), w64 (by omega) (by omega)]
  have e1 : IntKind.i64.wrap (2 + IntKind.i64.wrap (Int.tmod b0 15)) = 2 + b0 % 15 := by
    rw [tmod_of hb0.1, w64 (x := b0 % 15) (by omega) (by omega), w64 (by omega) (by omega)]
  rw [e0, e1]
  generalize hN : 6 + a % 19 = N
  generalize hb : 2 + b0 % 15 = b
  have hNr : 6 ≤ N ∧ N ≤ 24 := by omega
  have hbr : 2 ≤ b ∧ b ≤ 16 := by omega
  rintro b1 w1 rfl rfl
  have o1 := Own.new (w := w) [.int .i64 0, .int .i64 0] 23
  have x1 := Ex.alloc w (.cells #[.int .i64 0, .int .i64 0] 23)
  generalize w.alloc (.cells #[.int .i64 0, .int .i64 0] 23) = w1 at o1 x1 ⊢
  refine o1.put (by rfl) pair_one fun w2 k2 o2 => ?_
  have x2 : Ex w w2 := x1.then k2 fun i hi => by rw [hi]; exact Nat.le_refl _
  have o2 : Own w2 w.heap.size 23 2 (some ⟨w.heap.size, 0, none⟩) 1 1 [.int .i64 N, .int .i64 b] := o2
  refine ⟨N, o2.at (j := 0) rfl, chkd_of (by omega) (chkd_of (by omega) (chkd_of (by omega) ?_))⟩
  rintro b2 w3 rfl rfl
  have em : madeCells #[Value.bool false] (N.toNat * 1) = (List.replicate N.toNat (Value.bool false)).toArray := by
    have := madeCells_rep 1 (N.toNat * 1) (.bool false) (by decide)
    simpa using this
  rw [em]
  have oi := Own.alloc (w := w2) (List.replicate N.toNat (Value.bool false)) 4 1 N.toNat (by simp)
  have x3 := Ex.alloc w2 (.cells (List.replicate N.toNat (Value.bool false)).toArray 4)
  generalize w2.alloc (.cells (List.replicate N.toNat (Value.bool false)).toArray 4) = w3 at oi x3 ⊢
  rw [← marks_new] at oi
  have oi := oi.lower x2.size
  generalize w2.heap.size = bi at oi ⊢
  rintro b3 w4 rfl rfl
  have ol := Own.alloc (w := w3) [] 3 1 0 rfl
  have x4 := Ex.alloc w3 (.cells #[] 3)
  have X3 := x2.trans x3
  have ol : Own (w3.alloc (.cells #[] 3)) w.heap.size 3 1 (some ⟨w3.heap.size, 0, none⟩) 0 0 (i64s []) := ol.lower X3.size
  generalize w3.alloc (.cells #[] 3) = w4 at ol x4 ⊢
  refine ⟨fun t2 q m k t9 tip tin tic lp ln lc t w' => sp = t2 ∧ p3 = q ∧ n3 = m ∧ c3 = k ∧ t9 = w.heap.size ∧ tip = some ⟨bi, 0, none⟩ ∧ tin = N.toNat ∧ tic = N.toNat ∧ 0 ≤ t ∧ t ≤ 100 ∧ Ex w w' ∧ ∃ l, l.length = ln ∧ (ln : Int) ≤ t ∧ l.Nodup ∧ (∀ x ∈ l, 0 ≤ x ∧ x < N) ∧ Own w' w.heap.size 3 1 lp ln lc (i64s l) ∧ Own w' w.heap.size 4 1 (some ⟨bi, 0, none⟩) N.toNat N.toNat (marks N l) ∧ Own w' w.heap.size 23 2 (some ⟨w.heap.size, 0, none⟩) 1 1 [.int .i64 N, .int .i64 b],
    fun t2 q m k t9 tip tin tic lp ln lc t w' => (100 - t).toNat, ?_, ?_⟩
  · exact ⟨rfl, rfl, rfl, rfl, rfl, rfl, rfl, rfl, by omega, by omega, X3.trans x4, [], rfl, by simp, List.nodup_nil, fun x hx => (by cases hx), ol, oi.ex x4, (o2.ex x3).ex x4⟩
  clear ol x4 X3 oi x3 em o2 x2 k2 o1 x1
  rintro _ _ _ _ _ _ _ _ lp ln lc t w5 ⟨rfl, rfl, rfl, rfl, rfl, rfl, rfl, rfl, h0, h100, X5, l, hll, hlt, hnd, hlr, ol, oi, op⟩
  unfold stopcocklaw16_StrandOnce.b1
  have out : stopcocklaw16_StrandOnce.k1 sp w.heap.size (some ⟨bi, 0, none⟩) N.toNat N.toNat lp ln lc w5 (RR w) := by
    unfold stopcocklaw16_StrandOnce.k1
    refine ⟨#[.int .i64 N, .int .i64 b], rfl, op.cells, ?_⟩
    have hm : may N b = true := by simp [may]; omega
    obtain ⟨s', e1, e2, e3, e4, e5, e6, e7⟩ := freeAll_ok l (newSt N b) (fun x hx => by
      have := hlr x hx
      exact ⟨this.1, this.2, fun e => (by cases e), by simp [newSt]; omega⟩) hnd
    have hbeg : begun N b l = some s' := by
      unfold begun
      rw [hm, if_pos rfl]
      exact e1
    refine callP.use (New_spec N b (c := lc) w5 ol.cells hll (by omega)) ?_
    rw [hbeg]
    rintro _ w6 ⟨x6, ps, rfl, hg6, D, hs6⟩
    try dsimp only [dI_i64, dI_u8, dI_u16, dI_u32, dB_bool, dS_slice, dP_ptr, dT_tup, dA_agg, dStr_str, dF_f, dC_c, dM_m, optP_some, ga0, ga1, ga2, ga3, ga4, cond_true, cond_false, chk_true, Bool.not_true, Bool.not_false, Option.isNone_none, Option.isNone_some, List.toList_toArray]
    refine callP.use (awake_spec w6) ?_
    rintro _ w8 ⟨rfl, x8⟩
    try dsimp only [dI_i64, dI_u8, dI_u16, dI_u32, dB_bool, dS_slice, dP_ptr, dT_tup, dA_agg, dStr_str, dF_f, dC_c, dM_m, optP_some, ga0, ga1, ga2, ga3, ga4, cond_true, cond_false, chk_true, Bool.not_true, Bool.not_false, Option.isNone_none, Option.isNone_some, List.toList_toArray]
    rw [cond_neg (by decide), cond_neg (by decide)]
    have x68 := x6.trans x8
    have op8 := op.ex x68
    have oi8 := oi.ex x68
    have h8 : One w w8 ps s' := ⟨hg6, X5.trans x68, D, by
      obtain ⟨pf, cf, q, hD⟩ := hs6.ex x8
      exact ⟨pf, cf, ⟨q.cell.lower X5.size, q.fr.lower X5.size⟩, hD⟩⟩
    refine ⟨b, op8.at (j := 1) rfl, ?_⟩
    rw [tmod_of hsp.1, w64 (x := sp % 8) (by omega) (by omega)]
    have hfl : (s'.free.length : Int) = ln := by rw [e7]; simp [newSt, hll]
    have hfew := hg6.few
    have hmul : ((ln : Int) - sp % 8) * b ≤ 24 * b := Int.mul_le_mul_of_nonneg_right (by omega) (by omega)
    have hmul2 : (-8) * b ≤ ((ln : Int) - sp % 8) * b := Int.mul_le_mul_of_nonneg_right (by omega) (by omega)
    rw [w64 (x := (ln : Int) - sp % 8) (by omega) (by omega), w64 (x := ((ln : Int) - sp % 8) * b) (by omega) (by omega)]
    have fin := k2_spec (N := N) (b := b) (k := sp % 8) (l := l) h8 rfl e4 e5 e2 e3 (by omega) (fun x hx => by
      have := (e6 x).1 hx
      rcases this with h | h
      · cases h
      · exact h) oi8 op8
    unfold Want at fin
    rw [hfl] at fin
    refine cond_of (fun hc => ?_) (fun hc => ?_)
    · rw [if_pos (of_decide_eq_true hc)] at fin
      exact fin
    · rw [if_neg (of_decide_eq_false hc)] at fin
      exact fin
  refine cond_of (fun hc => ?_) (fun _ => out)
  have hc := of_decide_eq_true hc
  refine cond_of (fun hc2 => ?_) (fun _ => out)
  have hc2 := of_decide_eq_true hc2
  clear out
  have hxl := i1.size
  obtain ⟨x, hx, hxm, _⟩ := getE (l := xs) (i := t.toNat) (by omega)
  have hxb := wf_u8' (i1.wf x hxm)
  obtain ⟨a1, rfl, hca⟩ := (i1.cells.ex X5).many (j := t.toNat) (v := .int .u8 x) (by rw [List.getElem?_map, hx]; rfl)
  rw [← Nat.mul_one t.toNat] at hca
  refine chkd_of h0 (chkd_of hc ⟨x, hca, N, op.at (j := 0) rfl, chkd_of (by omega) fun k1 => ?_⟩)
  rw [w64 (x := x) (by omega) (by omega), tmod_of hxb.1]
  have hk0 : 0 ≤ x % N := Int.emod_nonneg _ (by omega)
  have hkN : x % N < N := Int.emod_lt_of_pos _ (by omega)
  generalize x % N = k at hk0 hkN ⊢
  have xd := Ex.drewN w5 k1
  have X6 := X5.trans xd
  have ol6 := ol.ex xd
  have oi6 := oi.ex xd
  have op6 := op.ex xd
  generalize w5.drewN k1 = w6 at X6 ol6 oi6 op6 ⊢
  have hmk := marks_at (n := N) l hk0 hkN
  have hcm := oi6.cells k.toNat _ hmk
  rw [← Nat.mul_one k.toNat] at hcm
  refine chkd_of hk0 (chkd_of (by omega) ⟨_, hcm, ?_⟩)
  cases hh : has l k with
  | true =>
    rw [cond_neg (by rfl), w64 (by omega) (by omega)]
    exact ⟨⟨rfl, rfl, rfl, rfl, rfl, rfl, rfl, rfl, by omega, by omega, X6, l, hll, by omega, hnd, hlr, ol6, oi6, op6⟩, by ((try dsimp only); omega)⟩
  | false =>
    rw [cond_pos (by rfl)]
    rintro b5 w7 rfl rfl
    have c7 : CellsO (w6.alloc (.cells #[.int .i64 k] 3)) (some ⟨w6.heap.size, 0, none⟩) [.int .i64 k] := CellsO.alloc [.int .i64 k] 3
    have x7 := Ex.alloc w6 (.cells #[.int .i64 k] 3)
    generalize w6.alloc (.cells #[.int .i64 k] 3) = w7 at c7 x7 ⊢
    refine appP_own (ol6.ex x7) (X6.trans x7).size [.int .i64 k] c7 rfl (by simp [Value.oneCell']) rfl (by omega) (by omega) fun p' c' w8 o8 k8 => ?_
    have t3 : ∀ i, (∃ x, lp = some x ∧ x.block = i) → Typed w7 3 i := fun i ⟨x, hx, hi⟩ => hi ▸ ((ol6.ex x7).typed hx).1
    have g3 : ∀ i, (∃ x, lp = some x ∧ x.block = i) → w.heap.size ≤ i := fun i ⟨x, hx, hi⟩ => hi ▸ ((ol6.ex x7).typed hx).2.1
    have X8 := (X6.trans x7).then k8 g3
    have oi8 := (oi6.ex x7).away k8 3 t3 (by decide)
    have op8 := (op6.ex x7).away k8 3 t3 (by decide)
    obtain ⟨q1, q2, q3, q4⟩ := oi8.store (j := k.toNat) (by omega) (.bool true) rfl
    refine chkd_of hk0 (chkd_of (by omega) ⟨q1, q2, ?_⟩)
    rintro w9 rfl
    have t4 : ∀ i, i = bi → Typed w8 4 i := fun i hi => hi ▸ (oi8.typed rfl).1
    have g4 : ∀ i, i = bi → w.heap.size ≤ i := fun i hi => hi ▸ (oi8.typed rfl).2.1
    have hnk : k ∉ l := fun e => by rw [(has_iff _ _).2 e] at hh; cases hh
    have hmem : ∀ x, x ∈ l ++ [k] ↔ x ∈ l ∨ x = k := fun x => by simp
    have hhas : ∀ x, has (l ++ [k]) x = (has l x || x == k) := fun x => by
      rw [Bool.eq_iff_iff, has_iff, hmem, Bool.or_eq_true, has_iff]
      simp
    rw [marks_set (m := l ++ [k]) hk0 hkN (by rw [hhas]; simp) (fun y hy => by rw [hhas, show (y == k) = false by simpa using hy, Bool.or_false])] at q3
    rw [w64 (by omega) (by omega)]
    refine ⟨⟨rfl, rfl, rfl, rfl, rfl, rfl, rfl, rfl, by omega, by omega, X8.then q4 g4, l ++ [k], by rw [List.length_append, hll]; rfl, by omega, ?_, ?_, ?_, q3, op8.away q4 4 t4 (by decide)⟩, by ((try dsimp only); omega)⟩
    · rw [List.nodup_append]
      refine ⟨hnd, by simp, fun a ha b hb => ?_⟩
      have : b = k := by simpa using hb
      subst this
      rintro rfl
      exact hnk ha
    · intro y hy
      rcases (hmem y).1 hy with hy | rfl
      · exact hlr y hy
      · exact ⟨hk0, hkN⟩
    · have e : i64s l ++ [.int .i64 k] = i64s (l ++ [k]) := by unfold i64s; rw [List.map_append]; rfl
      rw [e] at o8
      exact o8.away q4 4 t4 (by decide)
end Go.Proofs.Ythopiffhkldnhaa.G
