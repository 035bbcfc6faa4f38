/-
  The law StrandOnce: the walk.
-/
import Derived.Test.YthopiffhkldnhaaStrandF
namespace Go.Proofs.Ythopiffhkldnhaa.G
open Go.Dec Go.RowKit
set_option linter.unusedVariables false
set_option linter.unusedSimpArgs false

/-! ### Numbers of places -/
theorem part_spec {h m : Int} (w : World) (hh : 0 ≤ h ∧ h < m) (hm : m ≤ 25) : stopcockref01_part.C (fl h) m w (Ret fun v w' => v = .int .i64 h ∧ w' = w) := by
  apply stopcockref01_part.ok
  unfold stopcockref01_part.main
  refine ⟨fun t0 t1 t5 w' => t0 = fl h ∧ m = t1 ∧ 0 ≤ t5 ∧ t5 ≤ h ∧ w = w', fun t0 t1 t5 w' => (m - t5).toNat, ?_, ?_⟩
  · exact ⟨rfl, rfl, by omega, by omega, rfl⟩
  rintro _ _ t w1 ⟨rfl, rfl, h0, h1, rfl⟩
  unfold stopcockref01_part.b1
  rw [condd_pos (by omega)]
  have e := fl_eq (a := h) (b := t) (by omega) (by omega)
  have e : fCmp .eql (fl h) (FloatKind.f64.nearest t) = decide (h = t) := e
  rw [e]
  refine cond_of (fun hc => ?_) (fun hc => ?_)
  · have hc := of_decide_eq_true hc
    subst hc
    exact Ret.mk ⟨rfl, rfl⟩
  · have hc := of_decide_eq_false hc
    rw [w64 (by omega) (by omega)]
    exact ⟨⟨rfl, rfl, by omega, by omega, rfl⟩, by ((try dsimp only); omega)⟩
theorem Flat_spec {h u b : Int} (w : World) (hh : 0 ≤ h ∧ h < 24) (hb : 2 ≤ b ∧ b ≤ 16) (hu : 0 ≤ u ∧ u < b) : stopcockref01_Flat.C (fl h) (fl u) b w (Ret fun v w' => v = .tuple #[.int .i64 (h * b + u), .int .i64 0] ∧ w' = w) := by
  apply stopcockref01_Flat.ok
  unfold stopcockref01_Flat.main
  rw [condd_neg (by omega), condd_neg (by omega)]
  have parts : stopcockref01_Parts.C (fl h) (fl u) w (Ret fun v w' => v = .tuple #[.int .i64 h, .int .i64 u, .int .i64 0] ∧ w' = w) := by
    apply stopcockref01_Parts.ok
    unfold stopcockref01_Parts.main
    refine callP.use (part_spec w ⟨hh.1, hh.2⟩ (by omega)) ?_
    rintro _ w1 ⟨rfl, rfl⟩
    try dsimp only [dI_i64, dI_u8, dI_u16, dI_u32, dB_bool, dS_slice, dP_ptr, dT_tup, dA_agg, dStr_str, dF_f, dC_c, dM_m, optP_some, ga0, ga1, ga2, ga3, ga4, cond_true, cond_false, chk_true, Bool.not_true, Bool.not_false, Option.isNone_none, Option.isNone_some, List.toList_toArray]
    refine callP.use (part_spec w1 (h := u) (m := 16) ⟨hu.1, by omega⟩ (by omega)) ?_
    rintro _ w2 ⟨rfl, rfl⟩
    try dsimp only [dI_i64, dI_u8, dI_u16, dI_u32, dB_bool, dS_slice, dP_ptr, dT_tup, dA_agg, dStr_str, dF_f, dC_c, dM_m, optP_some, ga0, ga1, ga2, ga3, ga4, cond_true, cond_false, chk_true, Bool.not_true, Bool.not_false, Option.isNone_none, Option.isNone_some, List.toList_toArray]
    rw [condd_neg (by omega), condd_neg (by omega)]
    exact Ret.mk ⟨rfl, rfl⟩
  refine callP.use parts ?_
  rintro _ w1 ⟨rfl, rfl⟩
  try dsimp only [dI_i64, dI_u8, dI_u16, dI_u32, dB_bool, dS_slice, dP_ptr, dT_tup, dA_agg, dStr_str, dF_f, dC_c, dM_m, optP_some, ga0, ga1, ga2, ga3, ga4, cond_true, cond_false, chk_true, Bool.not_true, Bool.not_false, Option.isNone_none, Option.isNone_some, List.toList_toArray]
  have h0 : 0 ≤ h * b := Int.mul_nonneg hh.1 (by omega)
  have h1 : h * b ≤ 23 * b := Int.mul_le_mul_of_nonneg_right (by omega) (by omega)
  rw [cond_neg (by decide), condd_neg (by omega), w64 (x := h * b) (by omega) (by omega), w64 (by omega) (by omega)]
  exact Ret.mk ⟨rfl, rfl⟩

/-! ### Segments that are freed one behind the other -/
theorem freeAll_ok : ∀ (l : List Int) (s : St), (∀ x ∈ l, 0 ≤ x ∧ x < s.segs ∧ x ∉ s.free ∧ x ≠ s.head) → l.Nodup → ∃ s', freeAll s l = some s' ∧ s'.segs = s.segs ∧ s'.blocks = s.blocks ∧ s'.head = s.head ∧ s'.used = s.used ∧ (∀ x, x ∈ s'.free ↔ x ∈ s.free ∨ x ∈ l) ∧ s'.free.length = s.free.length + l.length
  | [], s, _, _ => ⟨s, rfl, rfl, rfl, rfl, rfl, fun x => by simp, rfl⟩
  | k :: r, s, h, hd => by
    obtain ⟨h1, h2, h3, h4⟩ := h k (by simp)
    have hf : freed s k = ({ s with free := place k s.free }, 0) := by
      unfold freed
      rw [if_neg (by omega), if_neg (by rintro (e | e); exact h4 e; exact h3 e)]
    have hd := List.nodup_cons.1 hd
    obtain ⟨s', e1, e2, e3, e4, e5, e6, e7⟩ := freeAll_ok r { s with free := place k s.free } (fun x hx => by
      obtain ⟨a1, a2, a3, a4⟩ := h x (List.mem_cons_of_mem _ hx)
      refine ⟨a1, a2, fun e => ?_, a4⟩
      rcases mem_place.1 e with rfl | e
      · exact hd.1 hx
      · exact a3 e) hd.2
    refine ⟨s', by rw [freeAll_cons, hf]; exact e1, e2, e3, e4, e5, fun x => ?_, ?_⟩
    · rw [e6 x]
      dsimp only
      rw [mem_place, List.mem_cons]
      constructor
      · rintro ((h | h) | h)
        · exact .inr (.inl h)
        · exact .inl h
        · exact .inr (.inr h)
      · rintro (h | h | h)
        · exact .inl (.inr h)
        · exact .inl (.inl h)
        · exact .inr h
    · rw [e7]
      dsimp only
      rw [place_len, List.length_cons]
      omega

/-! ### What was given -/
structure Giving (F : List Int) (k : Int) (s : St) (done : List Int) (n : Int) : Prop where
  all : F = done ++ s.free
  nodup : F.Nodup
  start : done = [] → s.head = -1 ∧ s.used = 0 ∧ n = 0
  on : done ≠ [] → s.head ∈ done ∧ 0 ≤ s.head ∧ n = ((done.length : Int) - 1) * s.blocks + s.used ∧ (done.length : Int) ≤ (F.length : Int) - k ∧ 1 ≤ s.used
def Want (F : List Int) (k b : Int) : Int := if ((F.length : Int) - k) * b < 0 then 0 else ((F.length : Int) - k) * b
theorem want_pos {F : List Int} {k b : Int} (hb : 2 ≤ b) : Want F k b = if k ≤ (F.length : Int) then ((F.length : Int) - k) * b else 0 := by
  unfold Want
  split
  · rename_i h
    split
    · rename_i h2
      have := Int.mul_nonneg (show 0 ≤ (F.length : Int) - k by omega) (show 0 ≤ b by omega)
      omega
    · rfl
  · rename_i h
    split
    · rfl
    · rename_i h2
      have : (1 : Int) * b ≤ (k - F.length) * b := Int.mul_le_mul_of_nonneg_right (by omega) (by omega)
      have e : ((F.length : Int) - k) * b = -((k - F.length) * b) := by rw [← Int.neg_mul]; congr 1; omega
      omega
theorem room_want {F : List Int} {k : Int} {s : St} {done : List Int} {n : Int} (hg : Good s) (hk : 0 ≤ k) (h : Giving F k s done n) (hn : n ≤ Want F k s.blocks) : room s k = decide (n < Want F k s.blocks) := by
  have hb := hg.blocks
  have hu := hg.used
  have hlen : (F.length : Int) = done.length + s.free.length := by rw [h.all, List.length_append]; omega
  rw [want_pos hb.1] at hn ⊢
  by_cases hd : done = []
  · obtain ⟨h1, h2, h3⟩ := h.start hd
    have hf : full s = true := by unfold full; rw [Bool.or_eq_true]; exact .inl (by simp; omega)
    have hdl : done.length = 0 := by rw [hd]; rfl
    unfold room
    rw [hf, decide_eq_true (show k ≥ 0 by omega), Bool.not_true, Bool.false_or, Bool.true_and]
    rw [decide_eq_decide]
    split
    · rename_i hkl
      constructor
      · intro hgt
        have : (1 : Int) * s.blocks ≤ ((F.length : Int) - k) * s.blocks := Int.mul_le_mul_of_nonneg_right (by omega) (by omega)
        omega
      · intro hlt
        by_cases he : (F.length : Int) = k
        · rw [he, Int.sub_self, Int.zero_mul] at hlt
          omega
        · omega
    · constructor <;> intro hx <;> omega
  · obtain ⟨h1, h2, h3, h4, h5⟩ := h.on hd
    have hdl : 1 ≤ done.length := by
      cases done with
      | nil => exact absurd rfl hd
      | cons a r => simp
    rw [if_pos (by omega)] at hn ⊢
    have e1 : ((done.length : Int) - 1) * s.blocks = done.length * s.blocks - s.blocks := by rw [Int.sub_mul, Int.one_mul]
    have e2 : (done.length : Int) * s.blocks ≤ ((F.length : Int) - k) * s.blocks := Int.mul_le_mul_of_nonneg_right h4 (by omega)
    cases hf : full s with
    | false =>
      unfold full at hf
      rw [Bool.or_eq_false_iff] at hf
      have hub : ¬ s.used = s.blocks := by simpa using hf.2
      unfold room
      have hf' : full s = false := by unfold full; rw [hf.1, hf.2]; rfl
      rw [hf', decide_eq_true (show k ≥ 0 by omega)]
      symm
      simp only [Bool.not_false, Bool.true_or, Bool.and_self, decide_eq_true_eq]
      omega
    | true =>
      have hub : s.used = s.blocks := by
        have hf' := hf
        unfold full at hf'
        rw [Bool.or_eq_true] at hf'
        rcases hf' with hx | hx
        · have : s.head < 0 := by simpa using hx
          omega
        · simpa using hx
      unfold room
      rw [hf, decide_eq_true (show k ≥ 0 by omega), Bool.not_true, Bool.false_or, Bool.true_and, decide_eq_decide]
      constructor
      · intro hgt
        have : ((done.length : Int) + 1) * s.blocks ≤ ((F.length : Int) - k) * s.blocks := Int.mul_le_mul_of_nonneg_right (by omega) (by omega)
        rw [Int.add_mul, Int.one_mul] at this
        omega
      · intro hlt
        by_cases he : (done.length : Int) = (F.length : Int) - k
        · rw [← he] at hlt
          omega
        · omega
theorem next_ok {s : St} {k : Int} (hk : 0 ≤ k) (hr : room s k = true) : next s k = ({ turn s with used := (turn s).used + 1 }, 0, (turn s).head, (turn s).used) := by
  unfold next
  rw [if_neg (by omega), if_pos hr]
theorem next_no {s : St} {k : Int} (hk : 0 ≤ k) (hr : room s k = false) : next s k = (s, 9, 0, 0) := by
  unfold next
  rw [if_neg (by omega), if_neg (by rw [hr]; decide)]
theorem give {F : List Int} {k : Int} {s : St} {done : List Int} {n : Int} (hg : Good s) (hk : 0 ≤ k) (h : Giving F k s done n) (hr : room s k = true) :
    ∃ done', Giving F k { turn s with used := (turn s).used + 1 } done' (n + 1) ∧ (turn s).head ∈ done' ∧ (∀ x ∈ done, x ∈ done') ∧ ((turn s).head ∉ done ∨ (turn s).head = s.head ∧ (turn s).used = s.used) ∧ (s.head ∈ done → s.head ≠ (turn s).head → s.used = s.blocks) := by
  have hb := hg.blocks
  have hu := hg.used
  cases hf : full s with
  | true =>
    obtain ⟨x, r, hl⟩ := full_tail hg hk hr hf
    have ht : turn s = { s with head := x, used := 0, free := r } := by unfold turn; rw [hf, if_pos rfl, hl]; rfl
    have hlen : (F.length : Int) = done.length + s.free.length := by rw [h.all, List.length_append]; omega
    have hfl : (s.free.length : Int) > k := by
      unfold room at hr
      rw [hf] at hr
      simp at hr
      omega
    have hx0 := hg.free x (by rw [hl]; simp)
    have hxd : x ∉ done := by
      have hnd := h.nodup
      rw [h.all, hl, List.nodup_append] at hnd
      intro e
      exact hnd.2.2 x e x (by simp) rfl
    have hub : done ≠ [] → s.used = s.blocks := fun hd => by
      obtain ⟨_, h2, _⟩ := h.on hd
      have hf' := hf
      unfold full at hf'
      rw [Bool.or_eq_true] at hf'
      rcases hf' with hx | hx
      · have : s.head < 0 := by simpa using hx
        omega
      · simpa using hx
    rw [ht]
    refine ⟨done ++ [x], ⟨?_, h.nodup, fun e => by simp at e, fun _ => ⟨by simp, hx0.1, ?_, ?_, by dsimp only; omega⟩⟩, by simp, fun y hy => List.mem_append.2 (.inl hy), .inl hxd, fun hin _ => hub (by rintro rfl; cases hin)⟩
    · rw [h.all, hl]; simp
    · simp only [List.length_append, List.length_cons, List.length_nil]
      by_cases hd : done = []
      · obtain ⟨_, _, h3⟩ := h.start hd
        rw [hd, h3]
        simp
      · obtain ⟨_, _, h3, _⟩ := h.on hd
        rw [h3, hub hd]
        have e1 : ((done.length : Int) - 1) * s.blocks = done.length * s.blocks - s.blocks := by rw [Int.sub_mul, Int.one_mul]
        rw [e1]
        have e2 : ((done.length + (0 + 1) : Nat) : Int) - 1 = done.length := by omega
        rw [e2]
        omega
    · simp only [List.length_append, List.length_cons, List.length_nil]
      omega
  | false =>
    have ht : turn s = s := by unfold turn; rw [hf, if_neg (by decide)]
    rw [ht]
    have hne : done ≠ [] := fun e => by
      obtain ⟨h1, _⟩ := h.start e
      unfold full at hf
      rw [Bool.or_eq_false_iff] at hf
      have : ¬ s.head < 0 := by simpa using hf.1
      omega
    obtain ⟨h1, h2, h3, h4, h5⟩ := h.on hne
    exact ⟨done, ⟨h.all, h.nodup, fun e => absurd e hne, fun _ => ⟨h1, h2, by dsimp only; omega, h4, by dsimp only; omega⟩⟩, h1, fun y hy => hy, .inr ⟨rfl, rfl⟩, fun _ e => absurd rfl e⟩
end Go.Proofs.Ythopiffhkldnhaa.G
