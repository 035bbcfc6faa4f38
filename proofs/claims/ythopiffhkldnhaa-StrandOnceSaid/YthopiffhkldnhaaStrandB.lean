/-
  A Strand, plain; and what its functions do.
-/
import Derived.Test.YthopiffhkldnhaaStrandA
namespace Go.Proofs.Ythopiffhkldnhaa.G
open Go.Dec Go.RowKit
set_option linter.unusedVariables false
set_option linter.unusedSimpArgs false

/-! ### Plain -/
structure St where
  segs : Int
  blocks : Int
  free : List Int
  head : Int
  used : Int
structure Good (s : St) : Prop where
  segs : 6 ≤ s.segs ∧ s.segs ≤ 24
  blocks : 2 ≤ s.blocks ∧ s.blocks ≤ 16
  rises : Rises s.free
  free : ∀ x ∈ s.free, 0 ≤ x ∧ x < s.segs
  head : -1 ≤ s.head ∧ s.head < s.segs
  apart : s.head ∉ s.free
  used : 0 ≤ s.used ∧ s.used ≤ s.blocks
def full (s : St) : Bool := decide (s.head < 0) || s.used == s.blocks
def room (s : St) (k : Int) : Bool := decide (k ≥ 0) && (!full s || decide ((s.free.length : Int) > k))
def turn (s : St) : St := if full s then { s with head := s.free.head?.getD 0, used := 0, free := s.free.tail } else s
def next (s : St) (k : Int) : St × Int × Int × Int :=
  if k < 0 then (s, 1, 0, 0) else if room s k then ({ turn s with used := (turn s).used + 1 }, 0, (turn s).head, (turn s).used) else (s, 9, 0, 0)
def place (k : Int) (l : List Int) : List Int := l.filter (fun x => decide (x < k)) ++ k :: l.filter (fun x => !decide (x < k))
def freed (s : St) (k : Int) : St × Int :=
  if k < 0 ∨ s.segs ≤ k then (s, 1) else if k = s.head ∨ k ∈ s.free then (s, 12) else ({ s with free := place k s.free }, 0)
def freeAll : St → List Int → Option St
  | s, [] => some s
  | s, k :: r => if (freed s k).2 = 0 then freeAll (freed s k).1 r else none
def newSt (a b : Int) : St := ⟨a, b, [], -1, 0⟩
def may (a b : Int) : Bool := decide (6 ≤ a) && decide (a ≤ 24) && decide (2 ≤ b) && decide (b ≤ 16)
def begun (a b : Int) (l : List Int) : Option St := if may a b then freeAll (newSt a b) l else none

theorem rises_len : ∀ (l : List Int) (a b : Int), Rises l → (∀ x ∈ l, a ≤ x ∧ x < b) → a ≤ b → (l.length : Int) ≤ b - a
  | [], a, b, _, _, h => by simp; omega
  | x :: r, a, b, hr, hl, h => by
    have hx := hl x (by simp)
    have h1 := List.pairwise_cons.1 hr
    have := rises_len r (x + 1) b h1.2 (fun y hy => ⟨by have := h1.1 y hy; omega, (hl y (List.mem_cons_of_mem _ hy)).2⟩) (by omega)
    simp only [List.length_cons]
    omega
theorem Good.few {s : St} (h : Good s) : s.free.length ≤ 24 := by
  have := rises_len s.free 0 s.segs h.rises h.free (by have := h.segs; omega)
  have := h.segs
  omega
theorem mem_place {k : Int} {l : List Int} {x : Int} : x ∈ place k l ↔ x = k ∨ x ∈ l := by
  unfold place
  rw [List.mem_append, List.mem_cons, List.mem_filter, List.mem_filter]
  constructor
  · rintro (h | h | h)
    · exact .inr h.1
    · exact .inl h
    · exact .inr h.1
  · rintro (h | h)
    · exact .inr (.inl h)
    · by_cases hx : x < k
      · exact .inl ⟨h, by simpa using hx⟩
      · exact .inr (.inr ⟨h, by simpa using hx⟩)
theorem place_rises {k : Int} {l : List Int} (h : Rises l) (hk : k ∉ l) : Rises (place k l) := by
  unfold Rises place
  rw [List.pairwise_append]
  refine ⟨h.filter _, List.pairwise_cons.2 ⟨fun y hy => ?_, h.filter _⟩, fun a ha b hb => ?_⟩
  · obtain ⟨h1, h2⟩ := List.mem_filter.1 hy
    have h2 : ¬ y < k := by simpa using h2
    have : y ≠ k := fun e => hk (e ▸ h1)
    omega
  · obtain ⟨h1, h2⟩ := List.mem_filter.1 ha
    have h2 : a < k := by simpa using h2
    rcases List.mem_cons.1 hb with rfl | hb
    · exact h2
    · obtain ⟨h3, h4⟩ := List.mem_filter.1 hb
      have h4 : ¬ b < k := by simpa using h4
      omega
theorem ins_place {l : List Int} {i : Nat} {k : Int} (h1 : ∀ x ∈ l.take i, x < k) (h2 : ∀ x ∈ l.drop i, k ≤ x) : ins l i k = place k l := by
  unfold ins place
  have e1 : l.filter (fun x => decide (x < k)) = l.take i := by
    conv => lhs; rw [← List.take_append_drop i l]
    rw [List.filter_append, List.filter_eq_self.2 fun x hx => by simpa using h1 x hx, List.filter_eq_nil_iff.2 fun x hx => by simpa using h2 x hx, List.append_nil]
  have e2 : l.filter (fun x => !decide (x < k)) = l.drop i := by
    conv => lhs; rw [← List.take_append_drop i l]
    have a1 : (l.take i).filter (fun x => !decide (x < k)) = [] := List.filter_eq_nil_iff.2 fun x hx => by simpa using h1 x hx
    have a2 : (l.drop i).filter (fun x => !decide (x < k)) = l.drop i := List.filter_eq_self.2 fun x hx => by simpa using h2 x hx
    rw [List.filter_append, a1, a2, List.nil_append]
  rw [e1, e2]
theorem place_len (k : Int) (l : List Int) : (place k l).length = l.length + 1 := by
  unfold place
  rw [List.length_append, List.length_cons]
  induction l with
  | nil => rfl
  | cons x r ih =>
    rw [List.filter_cons, List.filter_cons]
    by_cases h : x < k
    · simp only [h, decide_true, if_true, Bool.not_true, Bool.false_eq_true, if_false, List.length_cons]
      omega
    · simp only [h, decide_false, if_true, Bool.not_false, Bool.false_eq_true, if_false, List.length_cons]
      omega
theorem freed_good {s : St} (h : Good s) (k : Int) : Good (freed s k).1 := by
  unfold freed
  split
  · exact h
  · split
    · exact h
    · rename_i h1 h2
      have hk : k ∉ s.free := fun e => h2 (.inr e)
      refine ⟨h.segs, h.blocks, place_rises h.rises hk, fun x hx => ?_, h.head, fun e => ?_, h.used⟩
      · rcases mem_place.1 hx with rfl | hx
        · dsimp only; omega
        · exact h.free x hx
      · rcases mem_place.1 e with e | e
        · exact h2 (.inl e.symm)
        · exact h.apart e
theorem full_tail {s : St} (h : Good s) {k : Int} (hk : 0 ≤ k) (hr : room s k = true) (hf : full s = true) : ∃ x r, s.free = x :: r := by
  cases hl : s.free with
  | nil => simp [room, hf, hl] at hr; omega
  | cons x r => exact ⟨x, r, rfl⟩
theorem turn_good {s : St} (h : Good s) {k : Int} (hk : 0 ≤ k) (hr : room s k = true) : Good (turn s) ∧ 0 ≤ (turn s).head ∧ (turn s).used < (turn s).blocks ∧ (turn s).segs = s.segs ∧ (turn s).blocks = s.blocks := by
  unfold turn
  cases hf : full s with
  | true =>
    obtain ⟨x, r, hl⟩ := full_tail h hk hr hf
    simp only [if_true, hl, List.head?_cons, Option.getD_some, List.tail_cons]
    have hrs := h.rises
    rw [hl] at hrs
    have h1 := List.pairwise_cons.1 hrs
    have hx := h.free x (by rw [hl]; simp)
    have hb := h.blocks
    refine ⟨⟨h.segs, h.blocks, h1.2, fun y hy => h.free y (by rw [hl]; exact List.mem_cons_of_mem _ hy), by ((try dsimp only); omega), fun e => ?_, by ((try dsimp only); omega)⟩, hx.1, by ((try dsimp only); omega), by trivial, by trivial⟩
    have := h1.1 x e
    omega
  | false =>
    simp only [Bool.false_eq_true, if_false]
    unfold full at hf
    rw [Bool.or_eq_false_iff] at hf
    have h1 : ¬ s.head < 0 := by simpa using hf.1
    have h2 : ¬ s.used = s.blocks := by simpa using hf.2
    have := h.used
    exact ⟨h, by omega, by omega, by trivial, by trivial⟩
theorem next_good {s : St} (h : Good s) (k : Int) : Good (next s k).1 := by
  unfold next
  split
  · exact h
  · split
    · rename_i hk hr
      obtain ⟨h1, h2, h3, h4, h5⟩ := turn_good h (by omega) hr
      exact ⟨h1.segs, h1.blocks, h1.rises, h1.free, h1.head, h1.apart, by have := h1.used; dsimp only; omega⟩
    · exact h
theorem newSt_good {a b : Int} (h : may a b = true) : Good (newSt a b) := by
  simp only [may, Bool.and_eq_true, decide_eq_true_eq] at h
  exact ⟨⟨h.1.1.1, h.1.1.2⟩, ⟨h.1.2, h.2⟩, List.Pairwise.nil, fun x hx => (by cases hx), (by simp [newSt]; omega), fun e => (by cases e), (by simp [newSt]; omega)⟩

/-! ### In memory -/
structure SAt (w : World) (B ps : Nat) (s : St) (pf : Option Addr) (c : Nat) : Prop where
  cell : Own w B 57 5 (some ⟨ps, 0, none⟩) 1 1 [.int .i64 s.segs, .int .i64 s.blocks, .slice pf s.free.length c, .int .i64 s.head, .int .i64 s.used]
  fr : Own w B 3 1 pf s.free.length c (i64s s.free)
def SIts (ps : Nat) (pf : Option Addr) (i : Nat) : Prop := i = ps ∨ ∃ x, pf = some x ∧ x.block = i
def SIs (w : World) (B ps : Nat) (s : St) (D : Nat → Prop) : Prop := ∃ pf c, SAt w B ps s pf c ∧ ∀ i, D i ↔ SIts ps pf i
theorem SAt.kp {w w' : World} {S : Nat → Prop} {B ps : Nat} {s : St} {pf : Option Addr} {c : Nat} (h : SAt w B ps s pf c) (hk : Kp w w' S) (hs : ∀ i, SIts ps pf i → ¬ S i) : SAt w' B ps s pf c :=
  ⟨h.cell.kp hk fun x hx => by cases hx; exact hs _ (.inl rfl), h.fr.kp hk fun x hx => hs _ (.inr ⟨x, hx, rfl⟩)⟩
theorem SAt.ex {w w' : World} {B ps : Nat} {s : St} {pf : Option Addr} {c : Nat} (h : SAt w B ps s pf c) (hk : Ex w w') : SAt w' B ps s pf c := h.kp hk fun _ _ h => h
theorem SIs.typed {w : World} {B ps : Nat} {s : St} {D : Nat → Prop} (h : SIs w B ps s D) {i : Nat} (hi : D i) : (Typed w 57 i ∨ Typed w 3 i) ∧ B ≤ i ∧ i < w.heap.size := by
  obtain ⟨pf, c, h, hD⟩ := h
  rcases (hD i).1 hi with rfl | ⟨x, hx, rfl⟩
  · exact ⟨.inl (h.cell.typed rfl).1, (h.cell.typed rfl).2⟩
  · exact ⟨.inr (h.fr.typed hx).1, (h.fr.typed hx).2⟩
theorem SIs.kp {w w' : World} {S : Nat → Prop} {B ps : Nat} {s : St} {D : Nat → Prop} (h : SIs w B ps s D) (hk : Kp w w' S) (hs : ∀ i, D i → ¬ S i) : SIs w' B ps s D := by
  obtain ⟨pf, c, h, hD⟩ := h
  exact ⟨pf, c, h.kp hk fun i hi => hs i ((hD i).2 hi), hD⟩
theorem SIs.ex {w w' : World} {B ps : Nat} {s : St} {D : Nat → Prop} (h : SIs w B ps s D) (hk : Ex w w') : SIs w' B ps s D := h.kp hk fun _ _ h => h
def AfterS (w : World) (B ps : Nat) (s : St) (D : Nat → Prop) (w' : World) : Prop := ∃ D', SIs w' B ps s D' ∧ Kp w w' D ∧ ∀ i, D' i → D i ∨ w.heap.size ≤ i
/-- a row apart stays -/
theorem SIs.off {w w' : World} {B ps : Nat} {s : St} {D : Nat → Prop} (h : SIs w B ps s D) (k : Kp w w' D) {B' : Nat} {e : TypeId} {sz : Nat} {p : Option Addr} {n c : Nat} {xs : List Value} (o : Own w B' e sz p n c xs) (h1 : e ≠ 57) (h2 : e ≠ 3) : Own w' B' e sz p n c xs :=
  o.kp k fun x hx hm => by
    have ht := (o.typed hx).1
    rcases (h.typed hm).1 with hm | hm
    · exact ht.ne hm h1 rfl
    · exact ht.ne hm h2 rfl

/-! ### Functions that only read -/
theorem full_spec {w : World} {B ps : Nat} {s : St} {D : Nat → Prop} (h : SIs w B ps s D) : strand_Strand_full.C (some ⟨ps, 0, none⟩) w (Ret fun v w' => v = .bool (full s) ∧ Ex w w') := by
  apply strand_Strand_full.ok
  unfold strand_Strand_full.main
  obtain ⟨pf, c, h, hD⟩ := h
  try dsimp only [dI_i64, dI_u8, dI_u16, dI_u32, dB_bool, dS_slice, dP_ptr, dT_tup, dA_agg, dStr_str, dF_f, dC_c, dM_m, optP_some, ga0, ga1, ga2, ga3, ga4, cond_true, cond_false, chk_true, Bool.not_true, Bool.not_false, Option.isNone_none, Option.isNone_some, List.toList_toArray]
  simp only [addr1]
  refine ⟨_, h.cell.at (j := 3) rfl, cond_of (fun hc k1 => ?_) (fun hc => ?_)⟩
  · exact Ret.mk ⟨by unfold full; rw [hc]; rfl, Ex.drewN _ _⟩
  · refine ⟨_, h.cell.at (j := 4) rfl, _, h.cell.at (j := 1) rfl, fun k1 => ?_⟩
    exact Ret.mk ⟨by unfold full; rw [hc]; rfl, Ex.drewN _ _⟩
theorem Room_none (k : Int) (w : World) : strand_Strand_Room.C none k w (Ret fun v w' => v = .bool false ∧ w' = w) := by
  apply strand_Strand_Room.ok
  unfold strand_Strand_Room.main
  rw [cond_neg (by rfl)]
  exact Ret.mk ⟨rfl, rfl⟩
theorem Room_spec {w : World} {B ps : Nat} {s : St} {D : Nat → Prop} (h : SIs w B ps s D) (k : Int) : strand_Strand_Room.C (some ⟨ps, 0, none⟩) k w (Ret fun v w' => v = .bool (room s k) ∧ Ex w w') := by
  apply strand_Strand_Room.ok
  unfold strand_Strand_Room.main
  rw [cond_pos (by rfl)]
  try dsimp only [dI_i64, dI_u8, dI_u16, dI_u32, dB_bool, dS_slice, dP_ptr, dT_tup, dA_agg, dStr_str, dF_f, dC_c, dM_m, optP_some, ga0, ga1, ga2, ga3, ga4, cond_true, cond_false, chk_true, Bool.not_true, Bool.not_false, Option.isNone_none, Option.isNone_some, List.toList_toArray]
  unfold room
  refine cond_of (fun hk => ?_) (fun hk => ?_)
  · rw [hk]
    refine callP.use (full_spec h) ?_
    rintro _ w1 ⟨rfl, x1⟩
    try dsimp only [dI_i64, dI_u8, dI_u16, dI_u32, dB_bool, dS_slice, dP_ptr, dT_tup, dA_agg, dStr_str, dF_f, dC_c, dM_m, optP_some, ga0, ga1, ga2, ga3, ga4, cond_true, cond_false, chk_true, Bool.not_true, Bool.not_false, Option.isNone_none, Option.isNone_some, List.toList_toArray]
    obtain ⟨pf, c, h, hD⟩ := h.ex x1
    cases hf : full s with
    | false =>
      rw [cond_pos (by rfl)]
      exact Ret.mk ⟨by simp, x1⟩
    | true =>
      rw [cond_neg (by rfl)]
      simp only [addr1]
      refine ⟨_, _, _, h.cell.at (j := 2) rfl, ?_⟩
      exact Ret.mk ⟨by simp, x1⟩
  · rw [hk]
    exact Ret.mk ⟨rfl, Ex.refl w⟩
theorem Frees_none (w : World) : strand_Strand_Frees.C none w (Ret fun v w' => v = .tuple #[.slice none 0 0, .int .i64 (-1)] ∧ w' = w) := by
  apply strand_Strand_Frees.ok
  unfold strand_Strand_Frees.main
  try dsimp only [dI_i64, dI_u8, dI_u16, dI_u32, dB_bool, dS_slice, dP_ptr, dT_tup, dA_agg, dStr_str, dF_f, dC_c, dM_m, optP_some, ga0, ga1, ga2, ga3, ga4, cond_true, cond_false, chk_true, Bool.not_true, Bool.not_false, Option.isNone_none, Option.isNone_some, List.toList_toArray]
  exact Ret.mk ⟨rfl, rfl⟩
theorem Frees_spec {w : World} {B ps : Nat} {s : St} {D : Nat → Prop} (h : SIs w B ps s D) (hg : Good s) : strand_Strand_Frees.C (some ⟨ps, 0, none⟩) w (Ret fun v w' => Ex w w' ∧ ∃ p c, v = .tuple #[.slice p s.free.length c, .int .i64 s.head] ∧ Own w' w.heap.size 3 1 p s.free.length c (i64s s.free)) := by
  apply strand_Strand_Frees.ok
  unfold strand_Strand_Frees.main
  have hdr := Ex.drew w
  obtain ⟨pf, c, h, hD⟩ := h.ex hdr
  try dsimp only [dI_i64, dI_u8, dI_u16, dI_u32, dB_bool, dS_slice, dP_ptr, dT_tup, dA_agg, dStr_str, dF_f, dC_c, dM_m, optP_some, ga0, ga1, ga2, ga3, ga4, cond_true, cond_false, chk_true, Bool.not_true, Bool.not_false, Option.isNone_none, Option.isNone_some, List.toList_toArray]
  simp only [addr1]
  have hfew := hg.few
  refine ⟨_, _, _, h.cell.at (j := 2) rfl, _, h.cell.at (j := 3) rfl, ?_⟩
  refine callP.use (Clone_spec pf s.free.length c (i64s s.free) w.drew h.fr.cells (i64s_len _) (by omega) (i64s_one _)) ?_
  rintro _ w1 ⟨p', c', rfl, x1, o1⟩
  try dsimp only [dI_i64, dI_u8, dI_u16, dI_u32, dB_bool, dS_slice, dP_ptr, dT_tup, dA_agg, dStr_str, dF_f, dC_c, dM_m, optP_some, ga0, ga1, ga2, ga3, ga4, cond_true, cond_false, chk_true, Bool.not_true, Bool.not_false, Option.isNone_none, Option.isNone_some, List.toList_toArray]
  exact ⟨(h.cell.ex x1).at (j := 3) rfl, Ret.mk ⟨hdr.trans x1, p', c', rfl, o1⟩⟩
theorem width_spec (n : Int) (w : World) : axis_width.C n w (Ret fun v w' => v = .bool (decide (n ≥ 1) && decide (n ≤ 16)) ∧ w' = w) := by
  apply axis_width.ok
  unfold axis_width.main
  refine cond_of (fun hc => ?_) (fun hc => ?_)
  · exact Ret.mk ⟨by rw [hc]; rfl, rfl⟩
  · exact Ret.mk ⟨by rw [hc]; rfl, rfl⟩
theorem Place_spec {h u b : Int} (w : World) (hh : 0 ≤ h ∧ h < 24) (hb : 2 ≤ b ∧ b ≤ 16) (hu : 0 ≤ u ∧ u < b) : axis_Place.C (h * b + u) b w (Ret fun v w' => v = .tuple #[.complex .f64 (fl h) (fl u), .int .i64 0] ∧ Ex w w') := by
  apply axis_Place.ok
  unfold axis_Place.main
  refine callP.use (width_spec b w) ?_
  rintro _ w1 ⟨rfl, rfl⟩
  try dsimp only [dI_i64, dI_u8, dI_u16, dI_u32, dB_bool, dS_slice, dP_ptr, dT_tup, dA_agg, dStr_str, dF_f, dC_c, dM_m, optP_some, ga0, ga1, ga2, ga3, ga4, cond_true, cond_false, chk_true, Bool.not_true, Bool.not_false, Option.isNone_none, Option.isNone_some, List.toList_toArray]
  rw [cond_neg (by simp; omega)]
  have h0 : 0 ≤ h * b := Int.mul_nonneg hh.1 (by omega)
  have h1 : h * b ≤ 23 * b := Int.mul_le_mul_of_nonneg_right (by omega) (by omega)
  have hd : (h * b + u) / b = h := by
    rw [Int.add_comm, Int.add_mul_ediv_right _ _ (by omega), Int.ediv_eq_zero_of_lt hu.1 hu.2, Int.zero_add]
  have hm : (h * b + u) % b = u := by
    rw [Int.add_comm, Int.add_mul_emod_self_right]
    exact Int.emod_eq_of_lt hu.1 hu.2
  rw [condd_neg (by omega), w64 (x := 24 * b) (by omega) (by omega), condd_neg (by omega)]
  refine chkd_of (by omega) (chkd_of (by omega) fun k1 => ?_)
  rw [Int.tdiv_eq_ediv_of_nonneg (by omega), Int.tmod_eq_emod_of_nonneg (by omega), hd, hm, w64 (by omega) (by omega)]
  exact Ret.mk ⟨rfl, Ex.drewN _ _⟩

/-! ### Next -/
theorem Next_none (k : Int) (w : World) : strand_Strand_Next.C none k w (Ret fun v w' => v = .tuple #[.complex .f64 0 0, .int .i64 1] ∧ w' = w) := by
  apply strand_Strand_Next.ok
  unfold strand_Strand_Next.main
  try dsimp only [dI_i64, dI_u8, dI_u16, dI_u32, dB_bool, dS_slice, dP_ptr, dT_tup, dA_agg, dStr_str, dF_f, dC_c, dM_m, optP_some, ga0, ga1, ga2, ga3, ga4, cond_true, cond_false, chk_true, Bool.not_true, Bool.not_false, Option.isNone_none, Option.isNone_some, List.toList_toArray]
  unfold strand_Strand_Next.k1
  try dsimp only [dI_i64, dI_u8, dI_u16, dI_u32, dB_bool, dS_slice, dP_ptr, dT_tup, dA_agg, dStr_str, dF_f, dC_c, dM_m, optP_some, ga0, ga1, ga2, ga3, ga4, cond_true, cond_false, chk_true, Bool.not_true, Bool.not_false, Option.isNone_none, Option.isNone_some, List.toList_toArray]
  exact Ret.mk ⟨rfl, rfl⟩
theorem Next_k2 {w : World} {B ps : Nat} {s : St} {pf : Option Addr} {c : Nat} (h : SAt w B ps s pf c) (hg : Good s) (h0 : 0 ≤ s.head) (hu : s.used < s.blocks) {S : Value → World → Prop}
    (hS : ∀ w', SAt w' B ps { s with used := s.used + 1 } pf c → Kp w w' (fun i => i = ps) → S (.tuple #[.complex .f64 (fl s.head) (fl s.used), .int .i64 0]) w') : strand_Strand_Next.k2 (some ⟨ps, 0, none⟩) w (Ret S) := by
  unfold strand_Strand_Next.k2
  have hdr := Ex.drew w
  have h := h.ex hdr
  have hb := hg.blocks
  have hs := hg.segs
  have hh := hg.head
  have hus := hg.used
  have hm0 : 0 ≤ s.head * s.blocks := Int.mul_nonneg h0 (by omega)
  have hm1 : s.head * s.blocks ≤ 23 * s.blocks := Int.mul_le_mul_of_nonneg_right (by omega) (by omega)
  try dsimp only [dI_i64, dI_u8, dI_u16, dI_u32, dB_bool, dS_slice, dP_ptr, dT_tup, dA_agg, dStr_str, dF_f, dC_c, dM_m, optP_some, ga0, ga1, ga2, ga3, ga4, cond_true, cond_false, chk_true, Bool.not_true, Bool.not_false, Option.isNone_none, Option.isNone_some, List.toList_toArray]
  simp only [addr1]
  refine ⟨_, h.cell.at (j := 3) rfl, _, h.cell.at (j := 1) rfl, _, h.cell.at (j := 4) rfl, _, h.cell.at (j := 1) rfl, ?_⟩
  rw [w64 (x := s.head * s.blocks) (by omega) (by omega), w64 (x := s.head * s.blocks + s.used) (by omega) (by omega)]
  refine callP.use (Place_spec w.drew ⟨h0, by omega⟩ hb ⟨hus.1, hu⟩) ?_
  rintro _ w1 ⟨rfl, x1⟩
  try dsimp only [dI_i64, dI_u8, dI_u16, dI_u32, dB_bool, dS_slice, dP_ptr, dT_tup, dA_agg, dStr_str, dF_f, dC_c, dM_m, optP_some, ga0, ga1, ga2, ga3, ga4, cond_true, cond_false, chk_true, Bool.not_true, Bool.not_false, Option.isNone_none, Option.isNone_some, List.toList_toArray]
  have h1 := h.ex x1
  refine ⟨_, h1.cell.at (j := 4) rfl, ?_⟩
  rw [w64 (x := s.used + 1) (by omega) (by omega)]
  refine h1.cell.put1 (j := 4) (by show 4 < 1 * 5; omega) rfl fun w2 k2 o2 => ?_
  have t57 : ∀ i, i = ps → Typed w1 57 i := fun i hi => hi ▸ (h1.cell.typed rfl).1
  exact Ret.mk (hS w2 ⟨o2, h1.fr.away k2 57 t57 (by decide)⟩ (((hdr.trans x1).kp _).tr k2))
theorem Next_spec {w : World} {B ps : Nat} {s : St} {D : Nat → Prop} (h : SIs w B ps s D) (hg : Good s) (hB : B ≤ w.heap.size) (k : Int) : strand_Strand_Next.C (some ⟨ps, 0, none⟩) k w (Ret fun v w' => v = .tuple #[.complex .f64 (fl (next s k).2.2.1) (fl (next s k).2.2.2), .int .i64 (next s k).2.1] ∧ AfterS w B ps (next s k).1 D w') := by
  apply strand_Strand_Next.ok
  unfold strand_Strand_Next.main
  try dsimp only [dI_i64, dI_u8, dI_u16, dI_u32, dB_bool, dS_slice, dP_ptr, dT_tup, dA_agg, dStr_str, dF_f, dC_c, dM_m, optP_some, ga0, ga1, ga2, ga3, ga4, cond_true, cond_false, chk_true, Bool.not_true, Bool.not_false, Option.isNone_none, Option.isNone_some, List.toList_toArray]
  have same : ∀ w', Ex w w' → AfterS w B ps s D w' := fun w' x => ⟨D, h.ex x, x.kp _, fun i hi => .inl hi⟩
  unfold strand_Strand_Next.k1 next
  refine cond_of (fun hk => ?_) (fun hk => ?_)
  · have hk := of_decide_eq_true hk
    rw [if_pos hk]
    exact Ret.mk ⟨by simp only [fl_zero], same _ (Ex.refl w)⟩
  have hk := of_decide_eq_false hk
  rw [if_neg hk]
  refine callP.use (Room_spec h k) ?_
  rintro _ w1 ⟨rfl, x1⟩
  try dsimp only [dI_i64, dI_u8, dI_u16, dI_u32, dB_bool, dS_slice, dP_ptr, dT_tup, dA_agg, dStr_str, dF_f, dC_c, dM_m, optP_some, ga0, ga1, ga2, ga3, ga4, cond_true, cond_false, chk_true, Bool.not_true, Bool.not_false, Option.isNone_none, Option.isNone_some, List.toList_toArray]
  cases hr : room s k with
  | false =>
    rw [if_neg (by decide), cond_pos (by rfl)]
    exact Ret.mk ⟨by simp only [fl_zero], same _ x1⟩
  | true =>
    rw [if_pos rfl, cond_neg (by rfl)]
    obtain ⟨g1, g2, g3, g4, g5⟩ := turn_good hg (by omega) hr
    refine callP.use (full_spec (h.ex x1)) ?_
    rintro _ w2 ⟨rfl, x2⟩
    try dsimp only [dI_i64, dI_u8, dI_u16, dI_u32, dB_bool, dS_slice, dP_ptr, dT_tup, dA_agg, dStr_str, dF_f, dC_c, dM_m, optP_some, ga0, ga1, ga2, ga3, ga4, cond_true, cond_false, chk_true, Bool.not_true, Bool.not_false, Option.isNone_none, Option.isNone_some, List.toList_toArray]
    have x12 := x1.trans x2
    cases hf : full s with
    | false =>
      try dsimp only [dI_i64, dI_u8, dI_u16, dI_u32, dB_bool, dS_slice, dP_ptr, dT_tup, dA_agg, dStr_str, dF_f, dC_c, dM_m, optP_some, ga0, ga1, ga2, ga3, ga4, cond_true, cond_false, chk_true, Bool.not_true, Bool.not_false, Option.isNone_none, Option.isNone_some, List.toList_toArray]
      have ht : turn s = s := by unfold turn; rw [hf, if_neg (by decide)]
      rw [ht] at g1 g2 g3 ⊢
      obtain ⟨pf, c, h2, hD⟩ := h.ex x12
      refine Next_k2 h2 g1 g2 g3 fun w3 h3 k3 => ⟨rfl, D, ⟨pf, c, h3, hD⟩, (x12.kp _).tr (k3.mono fun i _ hi => (hD i).2 (.inl hi)), fun i hi => .inl hi⟩
    | true =>
      try dsimp only [dI_i64, dI_u8, dI_u16, dI_u32, dB_bool, dS_slice, dP_ptr, dT_tup, dA_agg, dStr_str, dF_f, dC_c, dM_m, optP_some, ga0, ga1, ga2, ga3, ga4, cond_true, cond_false, chk_true, Bool.not_true, Bool.not_false, Option.isNone_none, Option.isNone_some, List.toList_toArray]
      obtain ⟨x, r, hl⟩ := full_tail hg (by omega) hr hf
      have ht : turn s = { s with head := x, used := 0, free := r } := by unfold turn; rw [hf, if_pos rfl, hl]; rfl
      rw [ht] at g1 g2 g3 ⊢
      have hdr := Ex.drew w2
      have x13 := x12.trans hdr
      obtain ⟨pf, c, h3, hD⟩ := h.ex x13
      generalize w2.drew = w3 at h3 x13 ⊢
      obtain ⟨a, rfl, hca⟩ := h3.fr.cells.one (v := .int .i64 x) (by rw [hl]; rfl)
      have hlen : s.free.length = r.length + 1 := by rw [hl]; rfl
      have hfew := hg.few
      simp only [addr1]
      refine ⟨_, _, _, h3.cell.at (j := 2) rfl, chkd_of (by omega) ⟨x, hca, _, _, _, h3.cell.at (j := 2) rfl, chkd_of (by omega) ?_⟩⟩
      have hsc : CellsO w3 (slA (some a) c 1 1) (i64s r) := by
        have hrm := h3.fr.2.1
        have := h3.fr.cells.slice c 1 r.length (by rw [i64s_len]; omega)
        rw [hl] at this
        unfold i64s at this ⊢
        rw [List.map_cons, List.drop_succ_cons, List.drop_zero, List.take_of_length_le (by simp)] at this
        exact this
      refine callP.use (Clone_spec _ (s.free.length - 1) (c - 1) (i64s r) w3 hsc (by rw [i64s_len]; omega) (by omega) (i64s_one _)) ?_
      rintro _ w4 ⟨p4, c4, rfl, x4, o4⟩
      try dsimp only [dI_i64, dI_u8, dI_u16, dI_u32, dB_bool, dS_slice, dP_ptr, dT_tup, dA_agg, dStr_str, dF_f, dC_c, dM_m, optP_some, ga0, ga1, ga2, ga3, ga4, cond_true, cond_false, chk_true, Bool.not_true, Bool.not_false, Option.isNone_none, Option.isNone_some, List.toList_toArray]
      have h4 := h3.ex x4
      refine ⟨Kp.cell x4 hca (fun h => h), h4.cell.at (j := 2) rfl, ?_⟩
      refine h4.cell.put1 (j := 3) (by show 3 < 1 * 5; omega) rfl fun w5 k5 o5 => ?_
      refine o5.put1 (j := 4) (by show 4 < 1 * 5; omega) rfl fun w6 k6 o6 => ?_
      refine o6.put1 (j := 2) (by show 2 < 1 * 5; omega) rfl fun w7 k7 o7 => ?_
      have K7 : Kp w4 w7 fun i => i = ps := (k5.tr k6).tr k7
      have t57 : ∀ i, i = ps → Typed w4 57 i := fun i hi => hi ▸ (h4.cell.typed rfl).1
      have o4' := (o4.lower (Nat.le_trans hB x13.size)).away K7 57 t57 (by decide)
      rw [show s.free.length - 1 = r.length by omega] at o7 o4'
      have KW : Kp w w7 D := ((x13.trans x4).kp _).tr (K7.mono fun i _ hi => (hD i).2 (.inl hi))
      refine Next_k2 (s := { s with head := x, used := 0, free := r }) (pf := p4) (c := c4) ⟨o7, o4'⟩ g1 g2 g3 fun w8 h8 k8 => ⟨rfl, SIts ps p4, ⟨p4, c4, h8, fun i => Iff.rfl⟩, KW.tr (k8.mono fun i _ hi => (hD i).2 (.inl hi)), fun i hi => ?_⟩
      rcases hi with hi | ⟨y, hy, hi⟩
      · exact .inl ((hD i).2 (.inl hi))
      · have := (o4.typed hy).2.1
        have := x13.size
        exact .inr (by omega)

/-! ### Free -/
theorem Free_none (k : Int) (w : World) : strand_Strand_Free.C none k w (Ret fun v w' => v = .int .i64 1 ∧ w' = w) := by
  apply strand_Strand_Free.ok
  unfold strand_Strand_Free.main
  try dsimp only [dI_i64, dI_u8, dI_u16, dI_u32, dB_bool, dS_slice, dP_ptr, dT_tup, dA_agg, dStr_str, dF_f, dC_c, dM_m, optP_some, ga0, ga1, ga2, ga3, ga4, cond_true, cond_false, chk_true, Bool.not_true, Bool.not_false, Option.isNone_none, Option.isNone_some, List.toList_toArray]
  unfold strand_Strand_Free.k1
  try dsimp only [dI_i64, dI_u8, dI_u16, dI_u32, dB_bool, dS_slice, dP_ptr, dT_tup, dA_agg, dStr_str, dF_f, dC_c, dM_m, optP_some, ga0, ga1, ga2, ga3, ga4, cond_true, cond_false, chk_true, Bool.not_true, Bool.not_false, Option.isNone_none, Option.isNone_some, List.toList_toArray]
  exact Ret.mk ⟨rfl, rfl⟩
theorem Free_spec {w : World} {B ps : Nat} {s : St} {D : Nat → Prop} (h : SIs w B ps s D) (hg : Good s) (hB : B ≤ w.heap.size) (k : Int) : strand_Strand_Free.C (some ⟨ps, 0, none⟩) k w (Ret fun v w' => v = .int .i64 (freed s k).2 ∧ AfterS w B ps (freed s k).1 D w') := by
  apply strand_Strand_Free.ok
  unfold strand_Strand_Free.main
  try dsimp only [dI_i64, dI_u8, dI_u16, dI_u32, dB_bool, dS_slice, dP_ptr, dT_tup, dA_agg, dStr_str, dF_f, dC_c, dM_m, optP_some, ga0, ga1, ga2, ga3, ga4, cond_true, cond_false, chk_true, Bool.not_true, Bool.not_false, Option.isNone_none, Option.isNone_some, List.toList_toArray]
  have same : ∀ w', Ex w w' → AfterS w B ps s D w' := fun w' x => ⟨D, h.ex x, x.kp _, fun i hi => .inl hi⟩
  have bad : (k < 0 ∨ s.segs ≤ k) → strand_Strand_Free.k1 (some ⟨ps, 0, none⟩) k true w (Ret fun v w' => v = .int .i64 (freed s k).2 ∧ AfterS w B ps (freed s k).1 D w') := fun hk => by
    unfold strand_Strand_Free.k1 freed
    try dsimp only [dI_i64, dI_u8, dI_u16, dI_u32, dB_bool, dS_slice, dP_ptr, dT_tup, dA_agg, dStr_str, dF_f, dC_c, dM_m, optP_some, ga0, ga1, ga2, ga3, ga4, cond_true, cond_false, chk_true, Bool.not_true, Bool.not_false, Option.isNone_none, Option.isNone_some, List.toList_toArray]
    rw [if_pos hk]
    exact Ret.mk ⟨rfl, same _ (Ex.refl w)⟩
  obtain ⟨pf, c, h1, hD⟩ := h
  have h : SIs w B ps s D := ⟨pf, c, h1, hD⟩
  refine cond_of (fun hk => bad (.inl (of_decide_eq_true hk))) (fun hk => ?_)
  have hk := of_decide_eq_false hk
  refine ⟨_, h1.cell.at (j := 0) rfl, ?_⟩
  by_cases hk2 : k ≥ s.segs
  · rw [decide_eq_true hk2]
    exact bad (.inr hk2)
  rw [decide_eq_false hk2]
  have hk2 : ¬ (k < 0 ∨ s.segs ≤ k) := by omega
  unfold strand_Strand_Free.k1 freed
  rw [if_neg hk2]
  try dsimp only [dI_i64, dI_u8, dI_u16, dI_u32, dB_bool, dS_slice, dP_ptr, dT_tup, dA_agg, dStr_str, dF_f, dC_c, dM_m, optP_some, ga0, ga1, ga2, ga3, ga4, cond_true, cond_false, chk_true, Bool.not_true, Bool.not_false, Option.isNone_none, Option.isNone_some, List.toList_toArray]
  simp only [addr1]
  refine ⟨_, h1.cell.at (j := 3) rfl, cond_of (fun hh => ?_) (fun hh => ?_)⟩
  · have hh : k = s.head := by simpa using hh
    rw [if_pos (.inl hh)]
    exact Ret.mk ⟨rfl, same _ (Ex.refl w)⟩
  have hh : ¬ k = s.head := by simpa using hh
  have hfew := hg.few
  refine ⟨_, _, _, h1.cell.at (j := 2) rfl, ?_⟩
  refine callP.use (Contains_spec h1.fr.cells rfl (by omega) k) ?_
  rintro _ w2 ⟨rfl, x2⟩
  try dsimp only [dI_i64, dI_u8, dI_u16, dI_u32, dB_bool, dS_slice, dP_ptr, dT_tup, dA_agg, dStr_str, dF_f, dC_c, dM_m, optP_some, ga0, ga1, ga2, ga3, ga4, cond_true, cond_false, chk_true, Bool.not_true, Bool.not_false, Option.isNone_none, Option.isNone_some, List.toList_toArray]
  refine cond_of (fun hc => ?_) (fun hc => ?_)
  · rw [if_pos (.inr ((has_iff _ _).1 hc))]
    exact Ret.mk ⟨rfl, same _ x2⟩
  have hc : k ∉ s.free := fun e => by rw [(has_iff _ _).2 e] at hc; cases hc
  rw [if_neg (by rintro (e | e); exact hh e; exact hc e)]
  have h2 := h1.ex x2
  refine ⟨_, _, _, h2.cell.at (j := 2) rfl, ?_⟩
  refine callP.use (Search_spec h2.fr.cells rfl (by omega) hg.rises k) ?_
  rintro _ w3 ⟨rfl, i, f, rfl, hi, hlo, hhi⟩
  try dsimp only [dI_i64, dI_u8, dI_u16, dI_u32, dB_bool, dS_slice, dP_ptr, dT_tup, dA_agg, dStr_str, dF_f, dC_c, dM_m, optP_some, ga0, ga1, ga2, ga3, ga4, cond_true, cond_false, chk_true, Bool.not_true, Bool.not_false, Option.isNone_none, Option.isNone_some, List.toList_toArray]
  refine ⟨_, _, _, h2.cell.at (j := 2) rfl, ?_⟩
  rintro b4 w4 rfl rfl
  have hv : (w3.alloc (.cells #[.int .i64 k] 3)).heap[w3.heap.size]? = some (.cells #[.int .i64 k] 3) := heap_alloc_at w3 _
  have x4 := Ex.alloc w3 (.cells #[.int .i64 k] 3)
  generalize w3.alloc (.cells #[.int .i64 k] 3) = w4 at hv x4 ⊢
  have h4 := h2.ex x4
  refine callP.use (Insert_spec h4.fr (Nat.le_trans hB (x2.trans x4).size) (by omega) hi hv (fun x hx => by have := (h2.fr.typed hx).2.2; omega)) ?_
  rintro _ w5 ⟨p5, c5, rfl, o5, k5, hp5⟩
  try dsimp only [dI_i64, dI_u8, dI_u16, dI_u32, dB_bool, dS_slice, dP_ptr, dT_tup, dA_agg, dStr_str, dF_f, dC_c, dM_m, optP_some, ga0, ga1, ga2, ga3, ga4, cond_true, cond_false, chk_true, Bool.not_true, Bool.not_false, Option.isNone_none, Option.isNone_some, List.toList_toArray]
  have t3 : ∀ i, (∃ x, pf = some x ∧ x.block = i) → Typed w4 3 i := fun i ⟨x, hx, hi⟩ => hi ▸ (h4.fr.typed hx).1
  have cell5 := h4.cell.away k5 3 t3 (by decide)
  rw [ins_place hlo hhi] at o5
  refine cell5.put1 (j := 2) (by show 2 < 1 * 5; omega) rfl fun w6 k6 o6 => ?_
  have t57 : ∀ i, i = ps → Typed w5 57 i := fun i hi => hi ▸ (cell5.typed rfl).1
  have hpl := place_len k s.free
  have o5 := o5.away k6 57 t57 (by decide)
  rw [← hpl] at o5 o6
  refine Ret.mk ⟨rfl, SIts ps p5, ⟨p5, c5, ⟨o6, o5⟩, fun i => Iff.rfl⟩, (((x2.trans x4).kp _).tr (k5.mono fun i _ hi => (hD i).2 (.inr hi))).tr (k6.mono fun i _ hi => (hD i).2 (.inl hi)), fun i hi => ?_⟩
  rcases hi with hi | ⟨y, hy, hi⟩
  · exact .inl ((hD i).2 (.inl hi))
  · rcases hp5 with e | e
    · exact .inl ((hD i).2 (.inr ⟨y, by rw [← e]; exact hy, hi⟩))
    · have := e y hy
      have := (x2.trans x4).size
      exact .inr (by omega)
end Go.Proofs.Ythopiffhkldnhaa.G
