/-
  The plain Strand of the law's other program; the law StrandPlays: the walk.
-/
import Derived.Test.YthopiffhkldnhaaStrandC
namespace Go.Proofs.Ythopiffhkldnhaa.G
open Go.Dec Go.RowKit
set_option linter.unusedVariables false
set_option linter.unusedSimpArgs false

/-! ### Which are free, as truth values -/
def marks (n : Int) (l : List Int) : List Value := (List.range n.toNat).map fun i : Nat => Value.bool (has l (i : Int))
theorem marks_len (n : Int) (l : List Int) : (marks n l).length = n.toNat := by simp [marks]
theorem marks_at {n k : Int} (l : List Int) (h0 : 0 ≤ k) (h1 : k < n) : (marks n l)[k.toNat]? = some (.bool (has l k)) := by
  unfold marks
  rw [List.getElem?_map, List.getElem?_range (by omega)]
  simp only [Option.map_some]
  rw [show ((k.toNat : Nat) : Int) = k by omega]
theorem marks_set {n k : Int} {l m : List Int} {b : Bool} (h0 : 0 ≤ k) (h1 : k < n) (hk : has m k = b) (hm : ∀ x, x ≠ k → has m x = has l x) : (marks n l).set k.toNat (.bool b) = marks n m := by
  apply List.ext_getElem?
  intro j
  rw [List.getElem?_set]
  split
  · rename_i e
    subst e
    rw [if_pos (by rw [marks_len]; omega), marks_at _ h0 h1, hk]
  · rename_i e
    unfold marks
    rw [List.getElem?_map, List.getElem?_map]
    cases hj : (List.range n.toNat)[j]? with
    | none => rfl
    | some i =>
      have : i = j := by
        rw [List.getElem?_eq_some_iff] at hj
        obtain ⟨_, h⟩ := hj
        simpa using h.symm
      subst this
      simp only [Option.map_some]
      rw [hm _ (by omega)]
theorem has_place (k : Int) (l : List Int) (x : Int) : has (place k l) x = (x == k || has l x) := by
  rw [Bool.eq_iff_iff, has_iff, mem_place, Bool.or_eq_true, has_iff]
  simp
theorem marks_new (n : Int) : marks n [] = List.replicate n.toNat (Value.bool false) := by
  unfold marks has
  simp only [List.any_nil]
  rw [List.map_const', List.length_range]
theorem filter_step : ∀ (l : List Int) (t : Int), Rises l → l.filter (fun x => decide (x < t + 1)) = l.filter (fun x => decide (x < t)) ++ if has l t then [t] else []
  | [], t, _ => rfl
  | x :: r, t, h => by
    have h1 := List.pairwise_cons.1 h
    have ih := filter_step r t h1.2
    rw [List.filter_cons, List.filter_cons]
    have hh : has (x :: r) t = (t == x || has r t) := rfl
    have none_of : t ≤ x → r.filter (fun y => decide (y < t + 1)) = [] ∧ r.filter (fun y => decide (y < t)) = [] ∧ has r t = false := fun hx => by
      refine ⟨List.filter_eq_nil_iff.2 fun y hy => ?_, List.filter_eq_nil_iff.2 fun y hy => ?_, ?_⟩
      · have := h1.1 y hy; simp; omega
      · have := h1.1 y hy; simp; omega
      · cases hc : has r t with
        | false => rfl
        | true =>
          have := h1.1 t ((has_iff _ _).1 hc)
          omega
    rcases Int.lt_trichotomy x t with hx | hx | hx
    · rw [decide_eq_true (show x < t + 1 by omega), decide_eq_true hx, if_pos rfl, if_pos rfl, ih, hh]
      rw [show (t == x) = false by simp; omega, Bool.false_or]
      rfl
    · obtain ⟨a1, a2, a3⟩ := none_of (by omega)
      subst hx
      rw [decide_eq_true (show x < x + 1 by omega), decide_eq_false (show ¬ x < x by omega), if_pos rfl, if_neg (by decide), a1, a2, hh]
      simp
    · obtain ⟨a1, a2, a3⟩ := none_of (by omega)
      rw [decide_eq_false (show ¬ x < t + 1 by omega), decide_eq_false (show ¬ x < t by omega), if_neg (by decide), if_neg (by decide), a1, a2, hh, a3]
      rw [show (t == x) = false by simp; omega]
      rfl

/-! ### In memory -/
structure RIs (w : World) (B pr bi : Nat) (s : St) : Prop where
  cell : Own w B 47 5 (some ⟨pr, 0, none⟩) 1 1 [.int .i64 s.segs, .int .i64 s.blocks, .slice (some ⟨bi, 0, none⟩) s.segs.toNat s.segs.toNat, .int .i64 s.head, .int .i64 s.used]
  is : Own w B 4 1 (some ⟨bi, 0, none⟩) s.segs.toNat s.segs.toNat (marks s.segs s.free)
def RD (pr bi : Nat) (i : Nat) : Prop := i = pr ∨ i = bi
theorem RIs.kp {w w' : World} {S : Nat → Prop} {B pr bi : Nat} {s : St} (h : RIs w B pr bi s) (hk : Kp w w' S) (hs : ∀ i, RD pr bi i → ¬ S i) : RIs w' B pr bi s :=
  ⟨h.cell.kp hk fun x hx => by cases hx; exact hs _ (.inl rfl), h.is.kp hk fun x hx => by cases hx; exact hs _ (.inr rfl)⟩
theorem RIs.ex {w w' : World} {B pr bi : Nat} {s : St} (h : RIs w B pr bi s) (hk : Ex w w') : RIs w' B pr bi s := h.kp hk fun _ _ h => h
theorem RIs.typed {w : World} {B pr bi : Nat} {s : St} (h : RIs w B pr bi s) {i : Nat} (hi : RD pr bi i) : (Typed w 47 i ∨ Typed w 4 i) ∧ B ≤ i ∧ i < w.heap.size := by
  rcases hi with rfl | rfl
  · exact ⟨.inl (h.cell.typed rfl).1, (h.cell.typed rfl).2⟩
  · exact ⟨.inr (h.is.typed rfl).1, (h.is.typed rfl).2⟩
theorem RIs.lower {w : World} {B B' pr bi : Nat} {s : St} (h : RIs w B pr bi s) (hB : B' ≤ B) : RIs w B' pr bi s := ⟨h.cell.lower hB, h.is.lower hB⟩

theorem FreesR_spec {w : World} {B pr bi : Nat} {s : St} (h : RIs w B pr bi s) (hg : Good s) : stopcockref16_Strand_Frees.C (some ⟨pr, 0, none⟩) w (Ret fun v w' => Ex w w' ∧ ∃ p c, v = .slice p s.free.length c ∧ Own w' w.heap.size 3 1 p s.free.length c (i64s s.free)) := by
  apply stopcockref16_Strand_Frees.ok
  unfold stopcockref16_Strand_Frees.main
  rintro b1 w1 rfl rfl
  have o1 := Own.alloc (w := w) [] 3 1 0 rfl
  have x1 := Ex.alloc w (.cells #[] 3)
  have o1 : Own (w.alloc (.cells #[] 3)) w.heap.size 3 1 (some ⟨w.heap.size, 0, none⟩) 0 0 [] := o1
  generalize w.alloc (.cells #[] 3) = w1 at o1 x1 ⊢
  have hsg := hg.segs
  have hfew := hg.few
  refine ⟨fun t0 p n c t w' => t0 = some ⟨pr, 0, none⟩ ∧ 0 ≤ t ∧ t ≤ s.segs ∧ Ex w w' ∧ n = (s.free.filter fun x => decide (x < t)).length ∧ Own w' w.heap.size 3 1 p n c (i64s (s.free.filter fun x => decide (x < t))), fun t0 p n c t w' => (s.segs - t).toNat, ?_, ?_⟩
  · have e : (s.free.filter fun x => decide (x < 0)) = [] := List.filter_eq_nil_iff.2 fun x hx => by have := hg.free x hx; simp; omega
    dsimp only
    rw [e]
    exact ⟨rfl, by omega, by omega, x1, rfl, o1⟩
  clear o1 x1
  rintro _ p n c t w2 ⟨rfl, h0, h1, x2, hn, o2⟩
  have h2 := h.ex x2
  unfold stopcockref16_Strand_Frees.b1
  try dsimp only [dI_i64, dI_u8, dI_u16, dI_u32, dB_bool, dS_slice, dP_ptr, dT_tup, dA_agg, dStr_str, dF_f, dC_c, dM_m, optP_some, ga0, ga1, ga2, ga3, ga4, cond_true, cond_false, chk_true, Bool.not_true, Bool.not_false, Option.isNone_none, Option.isNone_some, List.toList_toArray]
  simp only [addr1]
  have hnl : n ≤ 24 := by rw [hn]; exact Nat.le_trans (List.length_filter_le _ _) hfew
  refine ⟨_, _, _, h2.cell.at (j := 2) rfl, cond_of (fun hc => ?_) (fun hc => ?_)⟩
  · have hc := of_decide_eq_true hc
    have hcm := h2.is.cells t.toNat _ (marks_at s.free h0 (by omega))
    rw [← Nat.mul_one t.toNat] at hcm
    refine ⟨_, _, _, h2.cell.at (j := 2) rfl, chkd_of h0 (chkd_of hc ⟨_, hcm, ?_⟩)⟩
    have hfs := filter_step s.free t hg.rises
    rw [w64 (by omega) (by omega)]
    cases hh : has s.free t with
    | true =>
      try dsimp only [dI_i64, dI_u8, dI_u16, dI_u32, dB_bool, dS_slice, dP_ptr, dT_tup, dA_agg, dStr_str, dF_f, dC_c, dM_m, optP_some, ga0, ga1, ga2, ga3, ga4, cond_true, cond_false, chk_true, Bool.not_true, Bool.not_false, Option.isNone_none, Option.isNone_some, List.toList_toArray]
      rw [hh, if_pos rfl] at hfs
      rintro b3 w3 rfl rfl
      have c3 : CellsO (w2.alloc (.cells #[.int .i64 t] 3)) (some ⟨w2.heap.size, 0, none⟩) [.int .i64 t] := CellsO.alloc [.int .i64 t] 3
      have x3 := Ex.alloc w2 (.cells #[.int .i64 t] 3)
      generalize w2.alloc (.cells #[.int .i64 t] 3) = w3 at c3 x3 ⊢
      refine appP_own (o2.ex x3) (Nat.le_trans x2.size x3.size) [.int .i64 t] c3 rfl (by simp [Value.oneCell']) rfl (by omega) (by omega) fun p' c' w4 o4 k4 => ?_
      have g4 : ∀ i, (∃ x, p = some x ∧ x.block = i) → w.heap.size ≤ i := fun i ⟨x, hx, hi⟩ => hi ▸ ((o2.ex x3).typed hx).2.1
      refine ⟨⟨by trivial, by omega, by omega, (x2.trans x3).then k4 g4, by rw [hfs, List.length_append, hn]; rfl, ?_⟩, by ((try dsimp only); omega)⟩
      rw [hfs]
      unfold i64s at o4 ⊢
      rw [List.map_append]
      exact o4
    | false =>
      try dsimp only [dI_i64, dI_u8, dI_u16, dI_u32, dB_bool, dS_slice, dP_ptr, dT_tup, dA_agg, dStr_str, dF_f, dC_c, dM_m, optP_some, ga0, ga1, ga2, ga3, ga4, cond_true, cond_false, chk_true, Bool.not_true, Bool.not_false, Option.isNone_none, Option.isNone_some, List.toList_toArray]
      rw [hh, if_neg (by decide), List.append_nil] at hfs
      exact ⟨⟨by trivial, by omega, by omega, x2, by rw [hfs]; exact hn, by rw [hfs]; exact o2⟩, by ((try dsimp only); omega)⟩
  · have hc := of_decide_eq_false hc
    have : t = s.segs := by omega
    subst this
    have e : (s.free.filter fun x => decide (x < s.segs)) = s.free := List.filter_eq_self.2 fun x hx => by simpa using (hg.free x hx).2
    rw [e] at hn o2
    subst hn
    exact Ret.mk ⟨x2, p, c, rfl, o2⟩

theorem RoomR_spec {w : World} {B pr bi : Nat} {s : St} (h : RIs w B pr bi s) (hg : Good s) (k : Int) : stopcockref16_Strand_Room.C (some ⟨pr, 0, none⟩) k w (Ret fun v w' => v = .bool (room s k) ∧ Ex w w') := by
  apply stopcockref16_Strand_Room.ok
  unfold stopcockref16_Strand_Room.main
  have hdr := Ex.drew w
  have h1 := h.ex hdr
  have hu := hg.used
  try dsimp only [dI_i64, dI_u8, dI_u16, dI_u32, dB_bool, dS_slice, dP_ptr, dT_tup, dA_agg, dStr_str, dF_f, dC_c, dM_m, optP_some, ga0, ga1, ga2, ga3, ga4, cond_true, cond_false, chk_true, Bool.not_true, Bool.not_false, Option.isNone_none, Option.isNone_some, List.toList_toArray]
  simp only [addr1]
  refine cond_of (fun hk => ?_) (fun hk => ?_)
  · have frees : full s = true → ∀ X, callP Try.prog 18 #[(Value.pointer (some ⟨pr, 0, none⟩))] w.drew (fun v1 w1 => dS v1 fun p1 n1 c1 => Ret (fun v w' => v = .bool (room s k) ∧ Ex w w') (.returned (Value.bool (decide (((n1 : Nat) : Int) > k)))) w1) X := fun hf X => by
      refine callP.use (FreesR_spec h1 hg) ?_
      rintro _ w2 ⟨x2, p, c, rfl, _⟩
      try dsimp only [dI_i64, dI_u8, dI_u16, dI_u32, dB_bool, dS_slice, dP_ptr, dT_tup, dA_agg, dStr_str, dF_f, dC_c, dM_m, optP_some, ga0, ga1, ga2, ga3, ga4, cond_true, cond_false, chk_true, Bool.not_true, Bool.not_false, Option.isNone_none, Option.isNone_some, List.toList_toArray]
      exact Ret.mk ⟨by unfold room; rw [hk, hf]; simp, hdr.trans x2⟩
    refine ⟨_, h1.cell.at (j := 3) rfl, cond_of (fun hh => ?_) (fun hh => ?_)⟩
    · have hh := of_decide_eq_true hh
      refine ⟨_, h1.cell.at (j := 4) rfl, _, h1.cell.at (j := 1) rfl, cond_of (fun hl => ?_) (fun hl => ?_)⟩
      · have hl := of_decide_eq_true hl
        refine Ret.mk ⟨?_, hdr⟩
        have hf : full s = false := by
          unfold full
          rw [Bool.or_eq_false_iff]
          exact ⟨by simp; omega, by simp; omega⟩
        unfold room
        rw [hk, hf]
        rfl
      · have hl := of_decide_eq_false hl
        exact frees (by unfold full; rw [Bool.or_eq_true]; exact .inr (by simp; omega)) _
    · have hh := of_decide_eq_false hh
      exact frees (by unfold full; rw [Bool.or_eq_true]; exact .inl (by simp; omega)) _
  · exact Ret.mk ⟨by unfold room; rw [hk]; rfl, hdr⟩
theorem Make_spec (a b : Int) (w : World) : stopcockref01_Make.C a b w (Ret fun v w' => v = .complex .f64 (fl a) (fl b) ∧ w' = w) := by
  apply stopcockref01_Make.ok
  unfold stopcockref01_Make.main
  exact Ret.mk ⟨rfl, rfl⟩
theorem NextR_k2 {w : World} {B pr bi : Nat} {s : St} (h : RIs w B pr bi s) (hg : Good s) {S : Value → World → Prop}
    (hS : ∀ w', RIs w' B pr bi { s with used := s.used + 1 } → Kp w w' (RD pr bi) → S (.tuple #[.complex .f64 (fl s.head) (fl s.used), .int .i64 0]) w') : stopcockref16_Strand_Next.k2 (some ⟨pr, 0, none⟩) w (Ret S) := by
  unfold stopcockref16_Strand_Next.k2
  have hb := hg.blocks
  have hus := hg.used
  try dsimp only [dI_i64, dI_u8, dI_u16, dI_u32, dB_bool, dS_slice, dP_ptr, dT_tup, dA_agg, dStr_str, dF_f, dC_c, dM_m, optP_some, ga0, ga1, ga2, ga3, ga4, cond_true, cond_false, chk_true, Bool.not_true, Bool.not_false, Option.isNone_none, Option.isNone_some, List.toList_toArray]
  simp only [addr1]
  refine ⟨_, h.cell.at (j := 4) rfl, ?_⟩
  rw [w64 (x := s.used + 1) (by omega) (by omega)]
  refine h.cell.put1 (j := 4) (by show 4 < 1 * 5; omega) rfl fun w1 k1 o1 => ?_
  have t47 : ∀ i, i = pr → Typed w 47 i := fun i hi => hi ▸ (h.cell.typed rfl).1
  have hdr := Ex.drew w1
  refine ⟨_, (o1.ex hdr).at (j := 3) rfl, _, (o1.ex hdr).at (j := 4) rfl, ?_⟩
  rw [w64 (x := s.used + 1 - 1) (by omega) (by omega), show s.used + 1 - 1 = s.used by omega]
  refine callP.use (Make_spec _ _ _) ?_
  rintro _ w2 ⟨rfl, rfl⟩
  try dsimp only [dI_i64, dI_u8, dI_u16, dI_u32, dB_bool, dS_slice, dP_ptr, dT_tup, dA_agg, dStr_str, dF_f, dC_c, dM_m, optP_some, ga0, ga1, ga2, ga3, ga4, cond_true, cond_false, chk_true, Bool.not_true, Bool.not_false, Option.isNone_none, Option.isNone_some, List.toList_toArray]
  exact Ret.mk (hS _ ⟨o1.ex hdr, (h.is.away k1 47 t47 (by decide)).ex hdr⟩ ((k1.mono fun i _ hi => .inl hi).tr (hdr.kp _)))
theorem NextR_spec {w : World} {B pr bi : Nat} {s : St} (h : RIs w B pr bi s) (hg : Good s) (k : Int) : stopcockref16_Strand_Next.C (some ⟨pr, 0, none⟩) k w (Ret fun v w' => v = .tuple #[.complex .f64 (fl (next s k).2.2.1) (fl (next s k).2.2.2), .int .i64 (next s k).2.1] ∧ RIs w' B pr bi (next s k).1 ∧ Kp w w' (RD pr bi)) := by
  apply stopcockref16_Strand_Next.ok
  unfold stopcockref16_Strand_Next.main
  unfold next
  refine cond_of (fun hk => ?_) (fun hk => ?_)
  · have hk := of_decide_eq_true hk
    rw [if_pos hk]
    exact Ret.mk ⟨by simp only [fl_zero], h, Kp.refl _ _⟩
  have hk := of_decide_eq_false hk
  rw [if_neg hk]
  refine callP.use (RoomR_spec h hg k) ?_
  rintro _ w1 ⟨rfl, x1⟩
  try dsimp only [dI_i64, dI_u8, dI_u16, dI_u32, dB_bool, dS_slice, dP_ptr, dT_tup, dA_agg, dStr_str, dF_f, dC_c, dM_m, optP_some, ga0, ga1, ga2, ga3, ga4, cond_true, cond_false, chk_true, Bool.not_true, Bool.not_false, Option.isNone_none, Option.isNone_some, List.toList_toArray]
  cases hr : room s k with
  | false =>
    rw [if_neg (by decide), cond_pos (by rfl)]
    exact Ret.mk ⟨by simp only [fl_zero], h.ex x1, x1.kp _⟩
  | true =>
    rw [if_pos rfl, cond_neg (by rfl)]
    obtain ⟨g1, g2, g3, g4, g5⟩ := turn_good hg (by omega) hr
    simp only [addr1]
    have h1 := h.ex x1
    have hu := hg.used
    have keep : full s = false → ∀ w2, Ex w1 w2 → stopcockref16_Strand_Next.k1 (some ⟨pr, 0, none⟩) false w2 (Ret fun v w' => v = .tuple #[.complex .f64 (fl (turn s).head) (fl (turn s).used), .int .i64 0] ∧ RIs w' B pr bi { turn s with used := (turn s).used + 1 } ∧ Kp w w' (RD pr bi)) := fun hf w2 x2 => by
      unfold stopcockref16_Strand_Next.k1
      try dsimp only [dI_i64, dI_u8, dI_u16, dI_u32, dB_bool, dS_slice, dP_ptr, dT_tup, dA_agg, dStr_str, dF_f, dC_c, dM_m, optP_some, ga0, ga1, ga2, ga3, ga4, cond_true, cond_false, chk_true, Bool.not_true, Bool.not_false, Option.isNone_none, Option.isNone_some, List.toList_toArray]
      have ht : turn s = s := by unfold turn; rw [hf, if_neg (by decide)]
      rw [ht]
      exact NextR_k2 (h1.ex x2) hg fun w3 h3 k3 => ⟨rfl, h3, ((x1.trans x2).kp _).tr k3⟩
    have turned : full s = true → ∀ w2, Ex w1 w2 → stopcockref16_Strand_Next.k1 (some ⟨pr, 0, none⟩) true w2 (Ret fun v w' => v = .tuple #[.complex .f64 (fl (turn s).head) (fl (turn s).used), .int .i64 0] ∧ RIs w' B pr bi { turn s with used := (turn s).used + 1 } ∧ Kp w w' (RD pr bi)) := fun hf w2 x2 => by
      unfold stopcockref16_Strand_Next.k1
      try dsimp only [dI_i64, dI_u8, dI_u16, dI_u32, dB_bool, dS_slice, dP_ptr, dT_tup, dA_agg, dStr_str, dF_f, dC_c, dM_m, optP_some, ga0, ga1, ga2, ga3, ga4, cond_true, cond_false, chk_true, Bool.not_true, Bool.not_false, Option.isNone_none, Option.isNone_some, List.toList_toArray]
      obtain ⟨x, r, hl⟩ := full_tail hg (by omega) hr hf
      have ht : turn s = { s with head := x, used := 0, free := r } := by unfold turn; rw [hf, if_pos rfl, hl]; rfl
      rw [ht] at g1 ⊢
      have hxs := hg.free x (by rw [hl]; simp)
      have hrs := hg.rises
      rw [hl] at hrs
      have hx1 := List.pairwise_cons.1 hrs
      refine callP.use (FreesR_spec (h1.ex x2) hg) ?_
      rintro _ w3 ⟨x3, p, c, rfl, o3⟩
      try dsimp only [dI_i64, dI_u8, dI_u16, dI_u32, dB_bool, dS_slice, dP_ptr, dT_tup, dA_agg, dStr_str, dF_f, dC_c, dM_m, optP_some, ga0, ga1, ga2, ga3, ga4, cond_true, cond_false, chk_true, Bool.not_true, Bool.not_false, Option.isNone_none, Option.isNone_some, List.toList_toArray]
      have h3 := (h1.ex x2).ex x3
      obtain ⟨a, rfl, hca⟩ := o3.cells.one (v := .int .i64 x) (by rw [hl]; rfl)
      refine chkd_of (by rw [hl]; simp only [List.length_cons]; omega) ⟨x, hca, ?_⟩
      simp only [addr1]
      refine h3.cell.put1 (j := 3) (by show 3 < 1 * 5; omega) rfl fun w4 k4 o4 => ?_
      have t47 : ∀ i, i = pr → Typed w3 47 i := fun i hi => hi ▸ (h3.cell.typed rfl).1
      have i4 := h3.is.away k4 47 t47 (by decide)
      have hdr := Ex.drew w4
      have o5 := o4.ex hdr
      have i5 := i4.ex hdr
      have K5 : Kp w w4.drew (RD pr bi) := ((((x1.trans x2).trans x3).kp _).tr (k4.mono fun i _ hi => .inl hi)).tr (hdr.kp _)
      generalize w4.drew = w5 at o5 i5 K5 ⊢
      obtain ⟨q1, q2, q3, q4⟩ := i5.store (j := x.toNat) (by omega) (.bool false) rfl
      refine ⟨_, _, _, o5.at (j := 2) rfl, x, o5.at (j := 3) rfl, chkd_of hxs.1 (chkd_of (by omega) ⟨q1, q2, ?_⟩)⟩
      rintro w6 rfl
      have t4 : ∀ i, i = bi → Typed w5 4 i := fun i hi => hi ▸ (i5.typed rfl).1
      have o6 := o5.away q4 4 t4 (by decide)
      rw [marks_set (m := r) hxs.1 hxs.2 (by
        cases hc : has r x with
        | false => rfl
        | true => have := hx1.1 x ((has_iff _ _).1 hc); omega) (fun y hy => by
        rw [hl]
        show has r y = (y == x || has r y)
        rw [show (y == x) = false by simpa using hy]; rfl)] at q3
      refine o6.put1 (j := 4) (by show 4 < 1 * 5; omega) rfl fun w7 k7 o7 => ?_
      have t47' : ∀ i, i = pr → Typed _ 47 i := fun i hi => hi ▸ (o6.typed rfl).1
      have K7 : Kp w w7 (RD pr bi) := (K5.tr (q4.mono fun i _ hi => .inr hi)).tr (k7.mono fun i _ hi => .inl hi)
      exact NextR_k2 (s := { s with head := x, used := 0, free := r }) ⟨o7, q3.away k7 47 t47' (by decide)⟩ g1 fun w8 h8 k8 => ⟨rfl, h8, K7.tr k8⟩
    refine ⟨_, h1.cell.at (j := 3) rfl, cond_of (fun hh k1 => ?_) (fun hh => ⟨_, h1.cell.at (j := 4) rfl, _, h1.cell.at (j := 1) rfl, fun k1 => ?_⟩)⟩
    · have hh := of_decide_eq_true hh
      exact turned (by unfold full; rw [Bool.or_eq_true]; exact .inl (by simpa using hh)) _ (Ex.drewN _ _)
    · have hh := of_decide_eq_false hh
      by_cases hub : s.used ≥ s.blocks
      · rw [decide_eq_true hub]
        exact turned (by unfold full; rw [Bool.or_eq_true]; exact .inr (by simp; omega)) _ (Ex.drewN _ _)
      · rw [decide_eq_false hub]
        exact keep (by unfold full; rw [Bool.or_eq_false_iff]; exact ⟨by simp; omega, by simp; omega⟩) _ (Ex.drewN _ _)

theorem FreeR_spec {w : World} {B pr bi : Nat} {s : St} (h : RIs w B pr bi s) (hg : Good s) (k : Int) : stopcockref16_Strand_Free.C (some ⟨pr, 0, none⟩) k w (Ret fun v w' => v = .int .i64 (freed s k).2 ∧ RIs w' B pr bi (freed s k).1 ∧ Kp w w' (RD pr bi)) := by
  apply stopcockref16_Strand_Free.ok
  unfold stopcockref16_Strand_Free.main
  have hsg := hg.segs
  unfold freed
  refine cond_of (fun hk => ?_) (fun hk => ?_)
  · have hk := of_decide_eq_true hk
    rw [if_pos (.inl hk)]
    exact Ret.mk ⟨rfl, h, Kp.refl _ _⟩
  have hk := of_decide_eq_false hk
  try dsimp only [dI_i64, dI_u8, dI_u16, dI_u32, dB_bool, dS_slice, dP_ptr, dT_tup, dA_agg, dStr_str, dF_f, dC_c, dM_m, optP_some, ga0, ga1, ga2, ga3, ga4, cond_true, cond_false, chk_true, Bool.not_true, Bool.not_false, Option.isNone_none, Option.isNone_some, List.toList_toArray]
  simp only [addr1]
  refine ⟨_, _, _, h.cell.at (j := 2) rfl, cond_of (fun hk2 => ?_) (fun hk2 => ?_)⟩
  · have hk2 := of_decide_eq_true hk2
    rw [if_pos (.inr (by omega))]
    exact Ret.mk ⟨rfl, h, Kp.refl _ _⟩
  have hk2 := of_decide_eq_false hk2
  rw [if_neg (by omega)]
  refine ⟨_, h.cell.at (j := 3) rfl, cond_of (fun hh => ?_) (fun hh => ?_)⟩
  · have hh : k = s.head := by simpa using hh
    rw [if_pos (.inl hh)]
    exact Ret.mk ⟨rfl, h, Kp.refl _ _⟩
  have hh : ¬ k = s.head := by simpa using hh
  have hcm := h.is.cells k.toNat _ (marks_at s.free (by omega) (by omega))
  rw [← Nat.mul_one k.toNat] at hcm
  refine ⟨_, _, _, h.cell.at (j := 2) rfl, chkd_of (by omega) (chkd_of (by omega) ⟨_, hcm, cond_of (fun hc => ?_) (fun hc => ?_)⟩)⟩
  · rw [if_pos (.inr ((has_iff _ _).1 hc))]
    exact Ret.mk ⟨rfl, h, Kp.refl _ _⟩
  have hc' : k ∉ s.free := fun e => by rw [(has_iff _ _).2 e] at hc; cases hc
  rw [if_neg (by rintro (e | e); exact hh e; exact hc' e)]
  obtain ⟨q1, q2, q3, q4⟩ := h.is.store (j := k.toNat) (by omega) (.bool true) rfl
  refine ⟨_, _, _, h.cell.at (j := 2) rfl, chkd_of (by omega) (chkd_of (by omega) ⟨q1, q2, ?_⟩)⟩
  rintro w1 rfl
  have t4 : ∀ i, i = bi → Typed w 4 i := fun i hi => hi ▸ (h.is.typed rfl).1
  rw [marks_set (m := place k s.free) (by omega) (by omega) (by rw [has_place]; simp) (fun y hy => by rw [has_place, show (y == k) = false by simpa using hy]; rfl)] at q3
  exact Ret.mk ⟨rfl, ⟨h.cell.away q4 4 t4 (by decide), q3⟩, q4.mono fun i _ hi => .inr hi⟩
end Go.Proofs.Ythopiffhkldnhaa.G
