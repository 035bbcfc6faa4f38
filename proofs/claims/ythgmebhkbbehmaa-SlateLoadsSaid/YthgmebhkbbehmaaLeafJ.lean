/-
  States: their cells; which are sound, as delta and the document's delta say.
-/
import Derived.Test.YthgmebhkbbehmaaLeafI
namespace Go.Proofs.Ythgmebhkbbehmaa.G
open Go.Dec Go.RowKit
set_option linter.unusedVariables false
set_option linter.unusedSimpArgs false

/-- a volume: kind, size, places -/
abbrev Ent := Int × Int × List Pl
abbrev Sta := List Ent
def kinds (R : Sta) : List Value := R.flatMap fun e => two e.1 e.2.1
def stC (R : Sta) (ps : List Value) : List Value := kinds R ++ ps
def okEnt (e : Ent) : Prop := (∀ q ∈ e.2.2, okPl q) ∧ e.2.2.length ≤ 1000 ∧ (0 ≤ e.1 ∧ e.1 < 256) ∧ (0 ≤ e.2.1 ∧ e.2.1 < 256)
structure StAt (w : World) (R : Sta) (ps : List Value) : Prop where
  len : R.length = 8
  pls : ps.length = 8
  row : ∀ (k : Nat) (e : Ent), R[k]? = some e → ∃ (p : Option Addr) (c : Nat), ps[k]? = some (Value.slice p e.2.2.length c) ∧ CellsO w p (e.2.2.map plV)
  ok : ∀ e ∈ R, okEnt e
theorem StAt.kp {w w' : World} {R : Sta} {ps : List Value} (h : StAt w R ps) {S : Nat → Prop} (k : Kp w w' S) (hs : ∀ p n c, Value.slice p n c ∈ ps → ∀ a, p = some a → ¬ S a.block) : StAt w' R ps :=
  ⟨h.len, h.pls, fun j e he => by
    obtain ⟨p, c, h1, h2⟩ := h.row j e he
    exact ⟨p, c, h1, h2.kp k fun a ha => hs p _ c (List.mem_of_getElem? h1) a ha⟩, h.ok⟩
theorem StAt.ex {w w' : World} {R : Sta} {ps : List Value} (h : StAt w R ps) (x : Ex w w') : StAt w' R ps := h.kp x fun _ _ _ _ _ _ h => h
theorem kinds_len : ∀ R : Sta, (kinds R).length = 2 * R.length
  | [] => rfl
  | e :: R => by
    have := kinds_len R
    unfold kinds at this ⊢
    rw [List.flatMap_cons, List.length_append, this, List.length_cons]
    simp only [two, List.length_cons, List.length_nil]
    omega
theorem kinds_at : ∀ (R : Sta) (k : Nat) (e : Ent), R[k]? = some e → ∃ t, (kinds R).drop (k * 2) = two e.1 e.2.1 ++ t
  | [], k, e, h => by simp at h
  | a :: R, 0, e, h => by
    obtain rfl : a = e := by simpa using h
    exact ⟨kinds R, rfl⟩
  | a :: R, k + 1, e, h => by
    obtain ⟨t, ht⟩ := kinds_at R k e (by simpa using h)
    refine ⟨t, ?_⟩
    have e2 : (k + 1) * 2 = k * 2 + 2 := by omega
    rw [e2]
    exact ht
theorem StAt.klen {w : World} {R : Sta} {ps : List Value} (h : StAt w R ps) : (kinds R).length = 16 := by rw [kinds_len, h.len]
theorem StAt.clen {w : World} {R : Sta} {ps : List Value} (h : StAt w R ps) : (stC R ps).length = 24 := by
  unfold stC
  rw [List.length_append, h.klen, h.pls]
theorem StAt.take {w : World} {R : Sta} {ps : List Value} (h : StAt w R ps) : (stC R ps).take 16 = kinds R := by
  unfold stC
  rw [List.take_append_of_le_length (by rw [h.klen]; omega), List.take_of_length_le (by rw [h.klen]; omega)]
theorem StAt.drop {w : World} {R : Sta} {ps : List Value} (h : StAt w R ps) : (stC R ps).drop 16 = ps := by
  unfold stC
  have := h.klen
  rw [← this, List.drop_left]
theorem StAt.pair {w : World} {R : Sta} {ps : List Value} (h : StAt w R ps) {k : Nat} {e : Ent} (he : R[k]? = some e) : (kinds R).toArray.extract (k * 2) (k * 2 + 2) = (two e.1 e.2.1).toArray := by
  obtain ⟨t, ht⟩ := kinds_at R k e he
  apply Array.ext'
  rw [Array.toList_extract]
  have e1 : (kinds R).toArray.toList.extract (k * 2) (k * 2 + 2) = ((kinds R).drop (k * 2)).take 2 := by
    rw [List.extract_eq_take_drop]
    congr 1
    omega
  rw [e1, ht]
  rfl
theorem StAt.pair2 {w : World} {R : Sta} {ps : List Value} (h : StAt w R ps) {k : Nat} {e : Ent} (he : R[k]? = some e) : ((stC R ps).drop (k * 2)).take 2 = two e.1 e.2.1 := by
  obtain ⟨t, ht⟩ := kinds_at R k e he
  have hk : k < 8 := by have := (List.getElem?_eq_some_iff.1 he).1; have := h.len; omega
  unfold stC
  rw [List.drop_append_of_le_length (by rw [h.klen]; omega), ht]
  rfl
theorem StAt.place {w : World} {R : Sta} {ps : List Value} (h : StAt w R ps) (k : Nat) : (stC R ps)[16 + k]? = ps[k]? := by
  have := congrArg (fun l => l[k]?) h.drop
  rwa [List.getElem?_drop] at this
theorem StAt.get {w : World} {R : Sta} {ps : List Value} (h : StAt w R ps) {k : Nat} (hk : k < 8) : ∃ e, R[k]? = some e := ⟨R[k]'(by rw [h.len]; exact hk), List.getElem?_eq_getElem _⟩
theorem two_one' (a b : Int) : ∀ z ∈ two a b, z.oneCell' = true := two_one
theorem StAt.one {w : World} {R : Sta} {ps : List Value} (h : StAt w R ps) : ∀ z ∈ stC R ps, z.oneCell' = true := by
  intro z hz
  unfold stC at hz
  rcases List.mem_append.1 hz with hz | hz
  · obtain ⟨e, _, he⟩ := List.mem_flatMap.1 hz
    exact two_one' _ _ z he
  · obtain ⟨k, hk⟩ := List.getElem?_of_mem hz
    have hk8 : k < 8 := by have := (List.getElem?_eq_some_iff.1 hk).1; have := h.pls; omega
    obtain ⟨e, he⟩ := h.get hk8
    obtain ⟨p, c, h1, _⟩ := h.row k e he
    rw [hk] at h1
    cases h1
    rfl

/-! ### Sound -/
def Snd (e : Ent) : Prop := (e.2.2.length : Int) = e.2.1 ∧ (0 ≤ e.1 ∧ e.1 < 3) ∧ (e.1 = 0 → e.2.1 = 0) ∧ (e.1 ≠ 0 → 1 ≤ e.2.1 ∧ e.2.1 < 33)
def SndR (R : Sta) : Prop := ∀ e ∈ R, Snd e
instance (e : Ent) : Decidable (Snd e) := inferInstanceAs (Decidable (_ ∧ _))
instance (R : Sta) : Decidable (SndR R) := inferInstanceAs (Decidable (∀ e ∈ R, Snd e))
theorem snd_bad {R : Sta} {k : Nat} {e : Ent} (he : R[k]? = some e) (h : ¬ Snd e) : decide (SndR R) = false := decide_eq_false fun s => h (s e (List.mem_of_getElem? he))
theorem snd_all {R : Sta} (h8 : R.length = 8) (h : ∀ (j : Nat) (e : Ent), j < 8 → R[j]? = some e → Snd e) : decide (SndR R) = true := decide_eq_true fun e he => by
  obtain ⟨k, hk⟩ := List.getElem?_of_mem he
  exact h k e (by have := (List.getElem?_eq_some_iff.1 hk).1; omega) hk
theorem snd_step {R : Sta} {k : Nat} {e : Ent} (he : R[k]? = some e) (h : Snd e) (H : ∀ (j : Nat) (e : Ent), j < k → R[j]? = some e → Snd e) : ∀ (j : Nat) (e : Ent), j < k + 1 → R[j]? = some e → Snd e := fun j e' hj he' => by
  by_cases hjk : j = k
  · subst hjk
    rw [he] at he'
    cases he'
    exact h
  · exact H j e' (by omega) he'
theorem Sound_all {w : World} {R : Sta} {ps : List Value} (h : StAt w R ps) : delta_Sound.C (stC R ps).toArray w (Ret fun v w' => v = .bool (decide (SndR R)) ∧ Ex w w') := by
  apply delta_Sound.ok
  unfold delta_Sound.main
  rintro b1 w1 rfl rfl
  have o1 := Owns.new (w := w) (stC R ps) ty_api_State
  have x1 := Ex.alloc w (.cells (stC R ps).toArray ty_api_State)
  generalize w.heap.size = b1 at o1 ⊢
  generalize w.alloc (.cells (stC R ps).toArray ty_api_State) = w1 at o1 x1 ⊢
  have h := h.ex x1
  refine ⟨(kinds R).toArray, by rw [List.size_toArray]; exact h.klen, by have := CellsO.take o1.cells 16; rwa [h.take] at this, ?_⟩
  unfold delta_Sound.l1
  refine ⟨fun t1 t7 t8 w' => b1 = t1 ∧ (kinds R).toArray = t7 ∧ 0 ≤ t8 ∧ t8 ≤ 8 ∧ (∀ (j : Nat) (e : Ent), j < t8.toNat → R[j]? = some e → Snd e) ∧ Ex w1 w', fun t1 t7 t8 w' => (8 - t8).toNat, ⟨rfl, rfl, by omega, by omega, fun j e hj => by simp at hj, Ex.refl _⟩, ?_⟩
  rintro _ _ t8 w' ⟨rfl, rfl, h0, h8, hall, hx⟩
  unfold delta_Sound.b1
  obtain ⟨k, rfl⟩ := Int.eq_ofNat_of_zero_le h0
  rw [Int.toNat_natCast] at hall
  refine cond_of (fun hlt => ?_) (fun hlt => ?_)
  · have hlt := of_decide_eq_true hlt
    have hk : k < 8 := by omega
    obtain ⟨e, he⟩ := h.get hk
    obtain ⟨p, c, hp, hcells⟩ := h.row k e he
    obtain ⟨hok, hl, _, _⟩ := h.ok e (List.mem_of_getElem? he)
    refine chk_of (decide_eq_true h0) (chk_of (decide_eq_true hlt) ?_)
    rw [Int.toNat_natCast, h.pair he]
    rintro b2 w2 rfl rfl
    have o2 := Owns.new (w := w') [.int .i64 0, .int .i64 0] ty_api_Entry
    have x2 := Ex.alloc w' (.cells [Value.int .i64 0, .int .i64 0].toArray ty_api_Entry)
    generalize w'.alloc (.cells #[.int .i64 0, .int .i64 0] ty_api_Entry) = w2 at o2 x2 ⊢
    refine chk_of (by rfl) ?_
    refine o2.put (cs := two e.1 e.2.1) (by rfl) (two_one' _ _) fun w3 k3 o3 => ?_
    have x3 : Ex w' w3 := x2.then k3 fun i hi => hi ▸ Nat.le_refl _
    have hx3 := hx.trans x3
    refine chk_of (decide_eq_true h0) (chk_of (decide_eq_true hlt) ?_)
    rw [addr16]
    refine ⟨p, e.2.2.length, c, (o1.ex hx3).at (by rw [h.place, hp]), e.2.1, o3.at (by rfl), ?_⟩
    have bad : ∀ {w'' : World}, Ex w1 w'' → ¬ Snd e → Ret (fun v w' => v = .bool (decide (SndR R)) ∧ Ex w w') (.returned (.bool false)) w'' := fun hx hn => by
      rw [snd_bad he hn]
      exact Ret.mk ⟨rfl, x1.trans hx⟩
    refine cond_of (fun hc => ?_) (fun hc => ?_)
    · have hc : ¬ (e.2.2.length : Int) = e.2.1 := by simpa using hc
      exact bad hx3 fun s => hc s.1
    have g1 : (e.2.2.length : Int) = e.2.1 := by simpa using hc
    refine ⟨e.1, o3.at (by rfl), ?_⟩
    refine cond_of (fun hc => ?_) (fun hc => ?_)
    · have g2 : e.1 = 0 := by simpa using hc
      refine ⟨e.2.1, o3.at (by rfl), ?_⟩
      refine cond_of (fun hc => ?_) (fun hc => ?_)
      · have hc : ¬ e.2.1 = 0 := by simpa using hc
        exact bad hx3 fun s => hc (s.2.2.1 g2)
      have g3 : e.2.1 = 0 := by simpa using hc
      refine ⟨e.1, o3.at (by rfl), ?_⟩
      refine callP.use (in_spec e.1 0 3 _) ?_
      rintro _ _ ⟨rfl, rfl⟩
      try dsimp only [dI_i64, dI_u8, dI_u16, dI_u32, dB_bool, dS_slice, dP_ptr, dT_tup, dA_agg, dStr_str, dF_f, dC_c, dM_m, optP_some, ga0, ga1, ga2, ga3, ga4, cond_true, cond_false, chk_true, Bool.not_true, Bool.not_false, Option.isNone_none, Option.isNone_some, List.toList_toArray]
      rw [decide_eq_true (by omega), decide_eq_true (by omega), cond_neg (by rfl)]
      refine ⟨e.1, o3.at (by rfl), ?_⟩
      rw [g2, cond_neg (by rfl)]
      refine callP.use (has75_all p _ c e.2.2 _ (hcells.ex hx3) rfl (by omega) hok) ?_
      rintro _ _ ⟨rfl, rfl⟩
      try dsimp only [dI_i64, dI_u8, dI_u16, dI_u32, dB_bool, dS_slice, dP_ptr, dT_tup, dA_agg, dStr_str, dF_f, dC_c, dM_m, optP_some, ga0, ga1, ga2, ga3, ga4, cond_true, cond_false, chk_true, Bool.not_true, Bool.not_false, Option.isNone_none, Option.isNone_some, List.toList_toArray]
      rw [wrap_next hk]
      exact ⟨⟨rfl, rfl, by omega, by omega, snd_step he ⟨g1, by omega, fun _ => g3, fun hn => absurd g2 hn⟩ hall, hx3⟩, by ((try dsimp only); omega)⟩
    · have g2 : ¬ e.1 = 0 := by simpa using hc
      refine ⟨e.1, o3.at (by rfl), ?_⟩
      refine callP.use (in_spec e.1 0 3 _) ?_
      rintro _ _ ⟨rfl, rfl⟩
      try dsimp only [dI_i64, dI_u8, dI_u16, dI_u32, dB_bool, dS_slice, dP_ptr, dT_tup, dA_agg, dStr_str, dF_f, dC_c, dM_m, optP_some, ga0, ga1, ga2, ga3, ga4, cond_true, cond_false, chk_true, Bool.not_true, Bool.not_false, Option.isNone_none, Option.isNone_some, List.toList_toArray]
      refine cond_of (fun hc => ?_) (fun hc => ?_)
      · refine bad hx3 fun s => ?_
        rw [decide_eq_true s.2.1.1, decide_eq_true s.2.1.2] at hc
        cases hc
      have g4 : 0 ≤ e.1 ∧ e.1 < 3 := by simpa using hc
      refine ⟨e.1, o3.at (by rfl), ?_⟩
      rw [cond_pos (by simpa using g2)]
      refine ⟨e.2.1, o3.at (by rfl), ?_⟩
      refine callP.use (in_spec e.2.1 1 33 _) ?_
      rintro _ _ ⟨rfl, rfl⟩
      try dsimp only [dI_i64, dI_u8, dI_u16, dI_u32, dB_bool, dS_slice, dP_ptr, dT_tup, dA_agg, dStr_str, dF_f, dC_c, dM_m, optP_some, ga0, ga1, ga2, ga3, ga4, cond_true, cond_false, chk_true, Bool.not_true, Bool.not_false, Option.isNone_none, Option.isNone_some, List.toList_toArray]
      refine cond_of (fun hc => ?_) (fun hc => ?_)
      · refine bad hx3 fun s => ?_
        have := s.2.2.2 g2
        rw [decide_eq_true this.1, decide_eq_true this.2] at hc
        cases hc
      have g5 : 1 ≤ e.2.1 ∧ e.2.1 < 33 := by simpa using hc
      refine callP.use (has75_all p _ c e.2.2 _ (hcells.ex hx3) rfl (by omega) hok) ?_
      rintro _ _ ⟨rfl, rfl⟩
      try dsimp only [dI_i64, dI_u8, dI_u16, dI_u32, dB_bool, dS_slice, dP_ptr, dT_tup, dA_agg, dStr_str, dF_f, dC_c, dM_m, optP_some, ga0, ga1, ga2, ga3, ga4, cond_true, cond_false, chk_true, Bool.not_true, Bool.not_false, Option.isNone_none, Option.isNone_some, List.toList_toArray]
      rw [wrap_next hk]
      exact ⟨⟨rfl, rfl, by omega, by omega, snd_step he ⟨g1, g4, fun hn => absurd hn g2, fun _ => g5⟩ hall, hx3⟩, by ((try dsimp only); omega)⟩
  · have hlt := of_decide_eq_false hlt
    obtain rfl : k = 8 := by omega
    rw [snd_all h.len hall]
    exact Ret.mk ⟨rfl, x1.trans hx⟩
theorem refSound_all {w : World} {R : Sta} {ps : List Value} (h : StAt w R ps) : stopcockref07_Sound.C (stC R ps).toArray w (Ret fun v w' => v = .bool (decide (SndR R)) ∧ Ex w w') := by
  apply stopcockref07_Sound.ok
  unfold stopcockref07_Sound.main
  rintro b1 w1 rfl rfl
  have o1 := Owns.new (w := w) (stC R ps) ty_api_State
  have x1 := Ex.alloc w (.cells (stC R ps).toArray ty_api_State)
  generalize w.heap.size = b1 at o1 ⊢
  generalize w.alloc (.cells (stC R ps).toArray ty_api_State) = w1 at o1 x1 ⊢
  have h := h.ex x1
  unfold stopcockref07_Sound.l1
  refine ⟨fun t1 t8 w' => b1 = t1 ∧ 0 ≤ t8 ∧ t8 ≤ 8 ∧ (∀ (j : Nat) (e : Ent), j < t8.toNat → R[j]? = some e → Snd e) ∧ Ex w1 w', fun t1 t8 w' => (8 - t8).toNat, ⟨rfl, by omega, by omega, fun j e hj => by simp at hj, Ex.refl _⟩, ?_⟩
  rintro _ t8 w' ⟨rfl, h0, h8, hall, hx⟩
  unfold stopcockref07_Sound.b1
  obtain ⟨k, rfl⟩ := Int.eq_ofNat_of_zero_le h0
  rw [Int.toNat_natCast] at hall
  refine cond_of (fun hlt => ?_) (fun hlt => ?_)
  · have hlt := of_decide_eq_true hlt
    have hk : k < 8 := by omega
    obtain ⟨e, he⟩ := h.get hk
    obtain ⟨p, c, hp, hcells⟩ := h.row k e he
    obtain ⟨hok, hl, _, _⟩ := h.ok e (List.mem_of_getElem? he)
    refine chk_of (decide_eq_true h0) (chk_of (decide_eq_true hlt) ?_)
    rw [Int.toNat_natCast]
    have hpair : CellsAt w' ((⟨b1, 0, none⟩ : Addr).add (k * 2)) (two e.1 e.2.1) := by
      have := CellsO.take (a := some ((⟨b1, 0, none⟩ : Addr).add (k * 2))) (CellsAt.drop (o1.ex hx).cells (k * 2)) 2
      rw [h.pair2 he] at this
      exact this
    refine ⟨(two e.1 e.2.1).toArray, rfl, hpair, ?_⟩
    rintro b2 w2 rfl rfl
    have o2 := Owns.new (w := w') [.int .i64 0, .int .i64 0] ty_api_Entry
    have x2 := Ex.alloc w' (.cells [Value.int .i64 0, .int .i64 0].toArray ty_api_Entry)
    generalize w'.alloc (.cells #[.int .i64 0, .int .i64 0] ty_api_Entry) = w2 at o2 x2 ⊢
    refine chk_of (by rfl) ?_
    refine o2.put (cs := two e.1 e.2.1) (by rfl) (two_one' _ _) fun w3 k3 o3 => ?_
    have x3 : Ex w' w3 := x2.then k3 fun i hi => hi ▸ Nat.le_refl _
    have hx3 := hx.trans x3
    have hpl : ∀ {w'' : World}, Ex w3 w'' → w''.cell? ((⟨b1, 16, none⟩ : Addr).add (k * 1)) = some (.slice p e.2.2.length c) := fun hx => by
      rw [addr16]
      exact (o1.ex (hx3.trans hx)).at (by rw [h.place, hp])
    refine chk_of (decide_eq_true h0) (chk_of (decide_eq_true hlt) ?_)
    refine ⟨p, e.2.2.length, c, hpl (Ex.refl _), e.2.1, o3.at (by rfl), ?_⟩
    have bad : ∀ {w'' : World}, Ex w1 w'' → ¬ Snd e → Ret (fun v w' => v = .bool (decide (SndR R)) ∧ Ex w w') (.returned (.bool false)) w'' := fun hx hn => by
      rw [snd_bad he hn]
      exact Ret.mk ⟨rfl, x1.trans hx⟩
    have badk : ¬ Snd e → ∀ k1 : Nat, Ret (fun v w' => v = .bool (decide (SndR R)) ∧ Ex w w') (.returned (.bool false)) (w3.drewN k1) := fun hn k1 => bad (hx3.trans (Ex.drewN _ _)) hn
    refine cond_of (fun hc => ?_) (fun hc => ?_)
    · have hc : ¬ (e.2.2.length : Int) = e.2.1 := by simpa using hc
      exact badk fun s => hc s.1
    have g1 : (e.2.2.length : Int) = e.2.1 := by simpa using hc
    refine ⟨e.1, o3.at (by rfl), ?_⟩
    refine cond_of (fun hc => ?_) (fun hc => ?_)
    · have hc := of_decide_eq_true hc
      exact badk fun s => by have := s.2.1; omega
    have g2 := of_decide_eq_false hc
    refine ⟨e.1, o3.at (by rfl), ?_⟩
    refine cond_of (fun hc => ?_) (fun hc => ?_)
    · have hc := of_decide_eq_true hc
      exact badk fun s => by have := s.2.1; omega
    have g3 := of_decide_eq_false hc
    refine ⟨e.1, o3.at (by rfl), ?_⟩
    have fin : ∀ {t23 : Nat} {t24 : Int} {t25 : Bool} {t28 : Nat} {t29 : Int} {t30 : Bool} {t33 : Nat} {t34 : Int} {t35 t36 t40 : Bool} {t43 : Nat} {t44 : Int} {t45 t46 t55 : Bool} {k1 : Nat} {C1 : Nat → Int → World → Prop}, (∀ w'', Ex w3 w'' → C1 b1 (IntKind.i64.wrap ((k : Int) + 1)) w'') → stopcockref07_Sound.k1 b1 (k : Int) t23 t24 t25 t28 t29 t30 t33 t34 t35 t36 t40 t43 t44 t45 t46 t55 (w3.drewN k1) (Ret fun v w' => v = .bool (decide (SndR R)) ∧ Ex w w') C1 := by
      intro t23 t24 t25 t28 t29 t30 t33 t34 t35 t36 t40 t43 t44 t45 t46 t55 k1 C1 K
      unfold stopcockref07_Sound.k1 stopcockref07_Sound.l2
      refine ⟨fun t1 t3 t5 t23 t24 t25 t28 t29 t30 t33 t34 t35 t36 t40 t43 t44 t45 t46 t55 w'' => b1 = t1 ∧ (k : Int) = t3 ∧ 0 ≤ t5 ∧ t5 ≤ e.2.2.length ∧ Ex w3 w'', fun t1 t3 t5 t23 t24 t25 t28 t29 t30 t33 t34 t35 t36 t40 t43 t44 t45 t46 t55 w'' => (e.2.2.length - t5).toNat, ⟨rfl, rfl, by omega, by omega, Ex.drewN _ _⟩, ?_⟩
      rintro _ _ t5 t23 t24 t25 t28 t29 t30 t33 t34 t35 t36 t40 t43 t44 t45 t46 t55 w'' ⟨rfl, rfl, i0, i1, hx2⟩
      unfold stopcockref07_Sound.b2
      obtain ⟨j, rfl⟩ := Int.eq_ofNat_of_zero_le i0
      refine chk_of (decide_eq_true h0) (chk_of (decide_eq_true hlt) ?_)
      rw [Int.toNat_natCast]
      refine ⟨p, e.2.2.length, c, hpl hx2, ?_⟩
      refine cond_of (fun hc => ?_) (fun hc => K _ hx2)
      have hc := of_decide_eq_true hc
      have hj : j < e.2.2.length := by omega
      refine chk_of (decide_eq_true h0) (chk_of (decide_eq_true hlt) ⟨p, e.2.2.length, c, hpl hx2, ?_⟩)
      refine chk_of (decide_eq_true i0) (chk_of (decide_eq_true hc) ?_)
      obtain ⟨a, rfl, r⟩ := pl_get (hcells.ex (hx3.trans hx2)) hj
      have hk := hok _ (List.getElem_mem hj)
      try dsimp only [dI_i64, dI_u8, dI_u16, dI_u32, dB_bool, dS_slice, dP_ptr, dT_tup, dA_agg, dStr_str, dF_f, dC_c, dM_m, optP_some, ga0, ga1, ga2, ga3, ga4, cond_true, cond_false, chk_true, Bool.not_true, Bool.not_false, Option.isNone_none, Option.isNone_some, List.toList_toArray]
      rw [Int.toNat_natCast, Nat.mul_one]
      refine ⟨_, _, r, ?_⟩
      rw [empty_eq hk]
      refine cond_of (fun hs => ?_) (fun hs => ?_)
      · refine chk_of (decide_eq_true h0) (chk_of (decide_eq_true hlt) ⟨_, e.2.2.length, c, hpl hx2, ?_⟩)
        refine chk_of (decide_eq_true i0) (chk_of (decide_eq_true hc) ?_)
        try dsimp only [dI_i64, dI_u8, dI_u16, dI_u32, dB_bool, dS_slice, dP_ptr, dT_tup, dA_agg, dStr_str, dF_f, dC_c, dM_m, optP_some, ga0, ga1, ga2, ga3, ga4, cond_true, cond_false, chk_true, Bool.not_true, Bool.not_false, Option.isNone_none, Option.isNone_some, List.toList_toArray]
        refine ⟨_, _, r, ?_⟩
        refine callP.use (refWhole_spec _ hk _) ?_
        rintro _ _ ⟨rfl, rfl⟩
        try dsimp only [dI_i64, dI_u8, dI_u16, dI_u32, dB_bool, dS_slice, dP_ptr, dT_tup, dA_agg, dStr_str, dF_f, dC_c, dM_m, optP_some, ga0, ga1, ga2, ga3, ga4, cond_true, cond_false, chk_true, Bool.not_true, Bool.not_false, Option.isNone_none, Option.isNone_some, List.toList_toArray]
        rw [hs, cond_neg (by rfl), w64 (by omega) (by omega)]
        exact ⟨⟨rfl, rfl, by omega, by omega, hx2⟩, by ((try dsimp only); omega)⟩
      · rw [w64 (by omega) (by omega)]
        exact ⟨⟨rfl, rfl, by omega, by omega, hx2⟩, by ((try dsimp only); omega)⟩
    refine cond_of (fun hc => ?_) (fun hc => ?_)
    · have g4 : e.1 = 0 := by simpa using hc
      refine ⟨e.2.1, o3.at (by rfl), ?_⟩
      refine cond_of (fun hc => ?_) (fun hc => ?_)
      · have hc : ¬ e.2.1 = 0 := by simpa using hc
        exact badk fun s => hc (s.2.2.1 g4)
      have g5 : e.2.1 = 0 := by simpa using hc
      refine ⟨e.1, o3.at (by rfl), ?_⟩
      rw [condd_neg (by omega)]
      intro k1
      refine fin fun w'' hx2 => ?_
      rw [wrap_next hk]
      exact ⟨⟨rfl, by omega, by omega, snd_step he ⟨g1, by omega, fun _ => g5, fun hn => absurd g4 hn⟩ hall, hx3.trans hx2⟩, by ((try dsimp only); omega)⟩
    · have g4 : ¬ e.1 = 0 := by simpa using hc
      refine ⟨e.1, o3.at (by rfl), ?_⟩
      rw [condd_pos (by omega)]
      refine ⟨e.2.1, o3.at (by rfl), ?_⟩
      refine cond_of (fun hc => ?_) (fun hc => ?_)
      · have hc := of_decide_eq_true hc
        exact badk fun s => by have := s.2.2.2 g4; omega
      have g5 := of_decide_eq_false hc
      refine ⟨e.2.1, o3.at (by rfl), fun k1 => ?_⟩
      refine cond_of (fun hc => ?_) (fun hc => ?_)
      · have hc := of_decide_eq_true hc
        exact badk (fun s => by have := s.2.2.2 g4; omega) k1
      have g6 := of_decide_eq_false hc
      refine fin fun w'' hx2 => ?_
      rw [wrap_next hk]
      exact ⟨⟨rfl, by omega, by omega, snd_step he ⟨g1, by omega, fun hn => absurd hn g4, fun _ => by omega⟩ hall, hx3.trans hx2⟩, by ((try dsimp only); omega)⟩
  · have hlt := of_decide_eq_false hlt
    obtain rfl : k = 8 := by omega
    rw [snd_all h.len hall]
    exact Ret.mk ⟨rfl, x1.trans hx⟩
end Go.Proofs.Ythgmebhkbbehmaa.G
namespace Go.Proofs.Ythgmebhkbbehmaa.G
open Go.Dec Go.RowKit
set_option linter.unusedVariables false
set_option linter.unusedSimpArgs false

def WithR (s k : Int) (R : Sta) : Prop := may s k = true ∧ SndR R ∧ ∀ e ∈ R, e.2.2.any (outPl s k) = false
theorem wit_step {s m : Int} {R : Sta} {k : Nat} {e : Ent} (he : R[k]? = some e) (h : e.2.2.any (outPl s m) = false) (H : ∀ (j : Nat) (e : Ent), j < k → R[j]? = some e → e.2.2.any (outPl s m) = false) : ∀ (j : Nat) (e : Ent), j < k + 1 → R[j]? = some e → e.2.2.any (outPl s m) = false := fun j e' hj he' => by
  by_cases hjk : j = k
  · subst hjk
    rw [he] at he'
    cases he'
    exact h
  · exact H j e' (by omega) he'
theorem Within_all {w : World} {R : Sta} {ps : List Value} (h : StAt w R ps) (s m : Int) :
    owner_Within.C (stC R ps).toArray s m w (Ret fun v w' => (∃ e, v = .int .i64 e ∧ (e = 0 ↔ WithR s m R)) ∧ Ex w w') := by
  apply owner_Within.ok
  unfold owner_Within.main
  rintro b1 w1 rfl rfl b2 w2 rfl rfl
  have o1 := Owns.new (w := w) (stC R ps) ty_api_State
  have x1 := Ex.alloc w (.cells (stC R ps).toArray ty_api_State)
  generalize w.heap.size = b1 at o1 ⊢
  generalize w.alloc (.cells (stC R ps).toArray ty_api_State) = w1 at o1 x1 ⊢
  have o2 := Owns.new (w := w1) (two s m) ty_api_Plat
  have x2 := Ex.alloc w1 (.cells (two s m).toArray ty_api_Plat)
  have e2 : w1.alloc (.cells #[.int .i64 s, .int .i64 m] ty_api_Plat) = w1.alloc (.cells (two s m).toArray ty_api_Plat) := rfl
  rw [e2]
  generalize w1.heap.size = b2 at o2 ⊢
  generalize w1.alloc (.cells (two s m).toArray ty_api_Plat) = w2 at o2 x2 ⊢
  have o1 := o1.ex x2
  have hx2 := x1.trans x2
  have h := h.ex hx2
  refine ⟨(two s m).toArray, rfl, o2.cells, ?_⟩
  refine callP.use (Check_all s m _) ?_
  rintro _ w3 ⟨rfl, x3⟩
  try dsimp only [dI_i64, dI_u8, dI_u16, dI_u32, dB_bool, dS_slice, dP_ptr, dT_tup, dA_agg, dStr_str, dF_f, dC_c, dM_m, optP_some, ga0, ga1, ga2, ga3, ga4, cond_true, cond_false, chk_true, Bool.not_true, Bool.not_false, Option.isNone_none, Option.isNone_some, List.toList_toArray]
  cases hm : may s m with
  | false =>
    rw [cond_pos (by rfl)]
    refine Ret.mk ⟨⟨1, rfl, ?_⟩, hx2.trans x3⟩
    constructor
    · intro h; cases h
    · intro h; rw [h.1] at hm; cases hm
  | true =>
  have hh := may_iff.1 hm
  rw [cond_neg (by rfl)]
  have h := h.ex x3
  refine ⟨(stC R ps).toArray, by rw [List.size_toArray]; exact h.clen, (o1.ex x3).cells, ?_⟩
  refine callP.use (Sound_all h) ?_
  rintro _ w5 ⟨rfl, x5⟩
  try dsimp only [dI_i64, dI_u8, dI_u16, dI_u32, dB_bool, dS_slice, dP_ptr, dT_tup, dA_agg, dStr_str, dF_f, dC_c, dM_m, optP_some, ga0, ga1, ga2, ga3, ga4, cond_true, cond_false, chk_true, Bool.not_true, Bool.not_false, Option.isNone_none, Option.isNone_some, List.toList_toArray]
  have hx5 := hx2.trans (x3.trans x5)
  refine cond_of (fun hs => ?_) (fun hs => ?_)
  · have hs : ¬ SndR R := by simpa using hs
    refine Ret.mk ⟨⟨2, rfl, ?_⟩, hx5⟩
    constructor
    · intro h; cases h
    · intro h; exact absurd h.2.1 hs
  have hs : SndR R := by simpa using hs
  have h := h.ex x5
  have o2 := (o2.ex x3).ex x5
  have hd : CellsAt w5 (⟨b1, 16, none⟩ : Addr) ps := by
    have := CellsAt.drop (o1.ex (x3.trans x5)).cells 16
    rwa [Addr.add_lit, Nat.zero_add, h.drop] at this
  refine ⟨ps.toArray, by rw [List.size_toArray]; exact h.pls, hd, ?_⟩
  unfold owner_Within.l1
  refine ⟨fun t3 t17 t18 w' => b2 = t3 ∧ ps.toArray = t17 ∧ 0 ≤ t18 ∧ t18 ≤ 8 ∧ (∀ (j : Nat) (e : Ent), j < t18.toNat → R[j]? = some e → e.2.2.any (outPl s m) = false) ∧ Ex w5 w', fun t3 t17 t18 w' => (8 - t18).toNat, ⟨rfl, rfl, by omega, by omega, fun j e hj => by simp at hj, Ex.refl _⟩, ?_⟩
  rintro _ _ t18 w' ⟨rfl, rfl, h0, h8, hall, hx⟩
  unfold owner_Within.b1
  obtain ⟨k, rfl⟩ := Int.eq_ofNat_of_zero_le h0
  rw [Int.toNat_natCast] at hall
  refine cond_of (fun hlt => ?_) (fun hlt => ?_)
  · have hlt := of_decide_eq_true hlt
    have hk : k < 8 := by omega
    obtain ⟨e, he⟩ := h.get hk
    obtain ⟨p, c, hp, hcells⟩ := h.row k e he
    obtain ⟨hok, hl, _, _⟩ := h.ok e (List.mem_of_getElem? he)
    refine chk_of (decide_eq_true h0) (chk_of (decide_eq_true hlt) ?_)
    rw [Int.toNat_natCast, Nat.mul_one]
    have e3 : ps.toArray[k]? = some (.slice p e.2.2.length c) := by rw [List.getElem?_toArray]; exact hp
    rw [e3]
    try dsimp only [dI_i64, dI_u8, dI_u16, dI_u32, dB_bool, dS_slice, dP_ptr, dT_tup, dA_agg, dStr_str, dF_f, dC_c, dM_m, optP_some, ga0, ga1, ga2, ga3, ga4, cond_true, cond_false, chk_true, Bool.not_true, Bool.not_false, Option.isNone_none, Option.isNone_some, List.toList_toArray]
    refine callP.use (has63_all p _ c e.2.2 w' (hcells.ex hx) rfl (by omega) hok s m hh (o2.ex hx)) ?_
    rintro _ w6 ⟨rfl, x6⟩
    try dsimp only [dI_i64, dI_u8, dI_u16, dI_u32, dB_bool, dS_slice, dP_ptr, dT_tup, dA_agg, dStr_str, dF_f, dC_c, dM_m, optP_some, ga0, ga1, ga2, ga3, ga4, cond_true, cond_false, chk_true, Bool.not_true, Bool.not_false, Option.isNone_none, Option.isNone_some, List.toList_toArray]
    refine cond_of (fun ha => ?_) (fun ha => ?_)
    · refine Ret.mk ⟨⟨5, rfl, ?_⟩, hx5.trans (hx.trans x6)⟩
      constructor
      · intro h; cases h
      · intro h; rw [h.2.2 e (List.mem_of_getElem? he)] at ha; cases ha
    · rw [wrap_next hk]
      exact ⟨⟨rfl, rfl, by omega, by omega, wit_step he ha hall, hx.trans x6⟩, by ((try dsimp only); omega)⟩
  · have hlt := of_decide_eq_false hlt
    obtain rfl : k = 8 := by omega
    refine Ret.mk ⟨⟨0, rfl, ?_⟩, hx5.trans hx⟩
    constructor
    · intro _
      refine ⟨hm, hs, fun e he => ?_⟩
      obtain ⟨k, hk⟩ := List.getElem?_of_mem he
      exact hall k e (by have := (List.getElem?_eq_some_iff.1 hk).1; have := h.len; omega) hk
    · intro _; rfl

/-! ### The places that are used -/
def usedE (e : Ent) : List (Nat × Nat) := e.2.2.filterMap id
def used (R : Sta) : List (Nat × Nat) := R.flatMap usedE
def nub (l : List (Nat × Nat)) : List (Nat × Nat) := l.foldl (fun acc x => if x ∈ acc then acc else acc ++ [x]) []
theorem nub_snoc (l : List (Nat × Nat)) (x : Nat × Nat) : nub (l ++ [x]) = if x ∈ nub l then nub l else nub l ++ [x] := by
  unfold nub
  rw [List.foldl_append]
  rfl
theorem mem_nub : ∀ (l : List (Nat × Nat)) (x : Nat × Nat), x ∈ nub l ↔ x ∈ l := by
  intro l
  have key : ∀ n (l : List (Nat × Nat)), l.length = n → ∀ x, x ∈ nub l ↔ x ∈ l := by
    intro n
    induction n with
    | zero => intro l hl x; obtain rfl := List.eq_nil_of_length_eq_zero hl; exact Iff.rfl
    | succ n ih =>
      intro l hl x
      obtain ⟨l', y, rfl⟩ : ∃ l' y, l = l' ++ [y] := ⟨l.dropLast, l.getLast (by intro h; subst h; simp at hl), (List.dropLast_concat_getLast _).symm⟩
      have hl' : l'.length = n := by simpa using hl
      rw [nub_snoc]
      split
      · rename_i h
        rw [ih l' hl' x, List.mem_append, List.mem_singleton]
        constructor
        · exact Or.inl
        · rintro (h1 | rfl)
          · exact h1
          · exact (ih l' hl' _).1 h
      · rw [List.mem_append, List.mem_append, ih l' hl' x]
  exact key l.length l rfl
theorem nub_nodup : ∀ l : List (Nat × Nat), (nub l).Nodup := by
  intro l
  have key : ∀ n (l : List (Nat × Nat)), l.length = n → (nub l).Nodup := by
    intro n
    induction n with
    | zero => intro l hl; obtain rfl := List.eq_nil_of_length_eq_zero hl; exact List.nodup_nil
    | succ n ih =>
      intro l hl
      obtain ⟨l', y, rfl⟩ : ∃ l' y, l = l' ++ [y] := ⟨l.dropLast, l.getLast (by intro h; subst h; simp at hl), (List.dropLast_concat_getLast _).symm⟩
      have hl' : l'.length = n := by simpa using hl
      rw [nub_snoc]
      split
      · exact ih l' hl'
      · rename_i h
        refine List.nodup_append.2 ⟨ih l' hl', by simp, fun a ha b hb => ?_⟩
        rw [List.mem_singleton] at hb
        subst hb
        intro h2
        subst h2
        exact h ha
  exact key l.length l rfl
def okP (x : Nat × Nat) : Prop := x.1 < 24 ∧ x.2 < 16
theorem used_ok {e : Ent} (h : ∀ q ∈ e.2.2, okPl q) : ∀ x ∈ usedE e, okP x := fun x hx => by
  obtain ⟨q, hq, e1⟩ := List.mem_filterMap.1 hx
  cases q with
  | none => cases e1
  | some y => cases e1; exact h _ hq

/-- a map whose keys are places, each once, in the order in which they came -/
structure MapAt (w : World) (B b n : Nat) (ks : List (Nat × Nat)) : Prop where
  low : B ≤ b
  at_ : ∃ es : Array MapEntry, w.heap[b]? = some (.map es es.size) ∧ es.toList.map (·.key) = ks.map (fun x => plV (some x)) ∧
    (∀ (i : Nat) (e : MapEntry), es.toList[i]? = some e → e.born = i ∧ ∃ p m c xs, e.val = .slice p m c ∧ Owns w B ty_api_Owner 2 p m c xs ∧ m ≤ n) ∧
    (∀ (i j : Nat) (e e' : MapEntry), es.toList[i]? = some e → es.toList[j]? = some e' → i ≠ j → ∀ a m c a' m' c', e.val = .slice (some a) m c → e'.val = .slice (some a') m' c' → a.block ≠ a'.block)
theorem MapAt.kp {w w' : World} {B b n : Nat} {ks : List (Nat × Nat)} (h : MapAt w B b n ks) {S : Nat → Prop} (k : Kp w w' S) (hS : ∀ i, B ≤ i → i < w.heap.size → ¬ S i) : MapAt w' B b n ks := by
  obtain ⟨h1, es, h2, h3, h4, h5⟩ := h
  have hb : b < w.heap.size := (Array.getElem?_eq_some_iff.1 h2).1
  refine ⟨h1, es, by rw [k.block b hb (hS b h1 hb)]; exact h2, h3, fun i e he => ?_, h5⟩
  obtain ⟨g1, p, m, c, xs, g2, g3, g4⟩ := h4 i e he
  exact ⟨g1, p, m, c, xs, g2, g3.kp k fun a ha => hS _ (g3.ge ha).1 (g3.ge ha).2, g4⟩
theorem key_apart {x y : Nat × Nat} (hx : okP x) (hy : okP y) (h : x ≠ y) : (fCmp .eql (plR (some x)) (plR (some y)) && fCmp .eql (plM (some x)) (plM (some y))) = false := by
  rw [pl_eq (q := some x) (r := some y) hx hy]
  exact decide_eq_false fun e => h (Option.some.inj e)
theorem key_self {x : Nat × Nat} (hx : okP x) : (fCmp .eql (plR (some x)) (plR (some x)) && fCmp .eql (plM (some x)) (plM (some x))) = true := by
  rw [pl_eq (q := some x) (r := some x) hx hx]
  exact decide_eq_true rfl
theorem owner_zero : zeroIs Try.prog ty_sl_api_Owner (.slice none 0 0) := by
  unfold zeroIs
  kernel_rfl
theorem findIdx_of {es : Array MapEntry} (h : ∀ (i : Nat) (e : MapEntry), es.toList[i]? = some e → e.born = i) {i : Nat} (hi : i < es.size) : es.findIdx? (fun e => (e.born : Int) == (i : Int)) = some i := by
  rw [Array.findIdx?_eq_some_iff_getElem]
  refine ⟨hi, ?_, fun j hj => ?_⟩
  · have := h i es[i] (by rw [Array.getElem?_toList]; exact Array.getElem?_eq_getElem hi)
    rw [this]
    simp
  · have := h j es[j] (by rw [Array.getElem?_toList]; exact Array.getElem?_eq_getElem (by omega))
    rw [this]
    simp
    omega
set_option maxRecDepth 8000 in
theorem MapAt.step {w : World} {B b n : Nat} {ks : List (Nat × Nat)} (h : MapAt w B b n ks) (hn : n ≤ 100000) (hB : B ≤ w.heap.size) {x : Nat × Nat} (hx : okP x) (hks : ∀ y ∈ ks, okP y) (t4 t17 : Int) {N : World → Prop}
    (K : ∀ w6, Kp w w6 (fun i => B ≤ i) → MapAt w6 B b (n + 1) (if x ∈ ks then ks else ks ++ [x]) → N w6) :
    newP w #[(Value.int .i64 t4), (Value.int .i64 t17)] ty_api_Owner fun b3 w3 =>
            optP (some b) fun b4 =>
            mentP Try.prog w3 b4 (plR (some x)) (plM (some x)) ty_sl_api_Owner (.slice none 0 0) fun v2 st1 w4 =>
            dS v2 fun p2 n2 c2 =>
            appP w4 p2 n2 c2 1 (CellsO w4 (some ⟨b3, 0, none⟩)) ty_api_Owner 2 16 #[(Value.int .i64 0), (Value.int .i64 0)] fun p3 c3 w5 =>
            optP (some b) fun b5 =>
            mstoP w5 b5 st1 (Value.slice p3 (n2 + 1) c3) fun w6 => N w6 := by
  rintro b3 w3 rfl rfl
  have o3 := Owns.new (w := w) [.int .i64 t4, .int .i64 t17] ty_api_Owner
  have x3 := Ex.alloc w (.cells [Value.int .i64 t4, .int .i64 t17].toArray ty_api_Owner)
  have hb3 : w.heap.size ≤ w.heap.size := Nat.le_refl _
  have e3 : w.alloc (.cells #[.int .i64 t4, .int .i64 t17] ty_api_Owner) = w.alloc (.cells [Value.int .i64 t4, .int .i64 t17].toArray ty_api_Owner) := rfl
  rw [e3]
  generalize hb3e : w.heap.size = b3 at o3 hb3 ⊢
  generalize w.alloc (.cells [Value.int .i64 t4, .int .i64 t17].toArray ty_api_Owner) = w3 at o3 x3 ⊢
  have h3 := h.kp x3 fun _ _ _ h => h
  obtain ⟨hlow, es, hes, hkeys, hval, hapart⟩ := h3
  have hblt : b < w3.heap.size := (Array.getElem?_eq_some_iff.1 hes).1
  have hlen : es.size = ks.length := by
    have := congrArg List.length hkeys
    simpa using this
  try dsimp only [dI_i64, dI_u8, dI_u16, dI_u32, dB_bool, dS_slice, dP_ptr, dT_tup, dA_agg, dStr_str, dF_f, dC_c, dM_m, optP_some, ga0, ga1, ga2, ga3, ga4, cond_true, cond_false, chk_true, Bool.not_true, Bool.not_false, Option.isNone_none, Option.isNone_some, List.toList_toArray]
  refine ⟨owner_zero, es, es.size, hes, ?_⟩
  have hkey : ∀ (i : Nat) (y : Nat × Nat), ks[i]? = some y → ∃ e, es.toList[i]? = some e ∧ e.key = plV (some y) := by
    intro i y hy
    have h1 : i < ks.length := (List.getElem?_eq_some_iff.1 hy).1
    have h2 : i < es.toList.length := by rw [Array.length_toList]; omega
    refine ⟨es.toList[i], List.getElem?_eq_getElem h2, ?_⟩
    have := congrArg (fun l => l[i]?) hkeys
    rw [List.getElem?_map, List.getElem?_map, hy, List.getElem?_eq_getElem h2] at this
    simpa using this
  have hentry : ∀ (i : Nat) (e : MapEntry), es.toList[i]? = some e → ∃ y, ks[i]? = some y ∧ e.key = plV (some y) := by
    intro i e he
    have h2 : i < es.toList.length := (List.getElem?_eq_some_iff.1 he).1
    have h1 : i < ks.length := by rw [Array.length_toList] at h2; omega
    refine ⟨ks[i], List.getElem?_eq_getElem h1, ?_⟩
    have := congrArg (fun l => l[i]?) hkeys
    rw [List.getElem?_map, List.getElem?_map, he, List.getElem?_eq_getElem h1] at this
    simpa using this
  have o3' : Owns w3 B ty_api_Owner 2 (some ⟨b3, 0, none⟩) 1 1 [.int .i64 t4, .int .i64 t17] := o3.lower (by omega)
  have hb3lt : b3 < w3.heap.size := (o3.ge rfl).2
  by_cases hmem : x ∈ ks
  · -- the place is there
    right
    obtain ⟨i, hi⟩ := List.getElem?_of_mem hmem
    -- the first one
    have hfirst : ∃ i, ks[i]? = some x ∧ ∀ y ∈ ks.take i, y ≠ x := by
      clear hi
      have : ∀ l : List (Nat × Nat), x ∈ l → ∃ i, l[i]? = some x ∧ ∀ y ∈ l.take i, y ≠ x := by
        intro l
        induction l with
        | nil => intro h; cases h
        | cons a l ih =>
          intro h
          by_cases hax : a = x
          · exact ⟨0, by simp [hax], fun y hy => by simp at hy⟩
          · obtain ⟨i, h1, h2⟩ := ih (by rcases List.mem_cons.1 h with h | h; exact absurd h.symm hax; exact h)
            refine ⟨i + 1, by simpa using h1, fun y hy => ?_⟩
            rw [List.take_succ_cons] at hy
            rcases List.mem_cons.1 hy with h | h
            · rw [h]; exact hax
            · exact h2 y h
      exact this ks hmem
    obtain ⟨i, hi, hbefore⟩ := hfirst
    obtain ⟨e, he, hek⟩ := hkey i x hi
    refine ⟨i, e, he, hek, key_self hx, fun e' he' => ?_, ?_⟩
    · obtain ⟨j, hj⟩ := List.getElem?_of_mem he'
      have hji : j < i := by
        have := (List.getElem?_eq_some_iff.1 hj).1
        rw [List.length_take] at this
        omega
      rw [List.getElem?_take_of_lt hji] at hj
      obtain ⟨y, hy, hyk⟩ := hentry j e' hj
      have hym : y ∈ ks.take i := by
        refine List.mem_of_getElem? (i := j) ?_
        rw [List.getElem?_take_of_lt hji]
        exact hy
      exact ⟨plR (some y), plM (some y), hyk, key_apart hx (hks y (List.mem_of_getElem? hy)) (fun h => hbefore y hym h.symm)⟩
    · obtain ⟨hborn, p, m, c, xs, hv, ho, hm⟩ := hval i e he
      rw [hv]
      try dsimp only [dI_i64, dI_u8, dI_u16, dI_u32, dB_bool, dS_slice, dP_ptr, dT_tup, dA_agg, dStr_str, dF_f, dC_c, dM_m, optP_some, ga0, ga1, ga2, ga3, ga4, cond_true, cond_false, chk_true, Bool.not_true, Bool.not_false, Option.isNone_none, Option.isNone_some, List.toList_toArray]
      refine appP_own2 (B := B) ho (by have := x3.size; omega) [.int .i64 t4, .int .i64 t17] o3.cells rfl two_one rfl (by omega) (by omega) ?_
      intro p3 c3 w5 o5 k5 hp3
      have hb5 : w5.heap[b]? = some (.map es es.size) := by
        rw [k5.block b hblt (fun ⟨a, ha, hab⟩ => ?_)]
        · exact hes
        · obtain ⟨cur, fr, ht⟩ := (ho.typed ha).1
          rw [hab, hes] at ht
          cases ht
      have hisz : i < es.size := by have := (List.getElem?_eq_some_iff.1 he).1; rwa [Array.length_toList] at this
      refine ⟨es, es.size, i, hb5, by rw [hborn]; exact findIdx_of (fun i e he => (hval i e he).1) hisz, fun w6 hw6 => ?_⟩
      subst hw6
      have kf := Kp.putObj w5 b (.map (es.modify i fun e => { e with val := Value.slice p3 (m + 1) c3 }) es.size)
      have hb5lt : b < w5.heap.size := (Array.getElem?_eq_some_iff.1 hb5).1
      have hkp : Kp w (w5.putObj b (.map (es.modify i fun e => { e with val := Value.slice p3 (m + 1) c3 }) es.size)) (fun i => B ≤ i) := by
        refine Kp.trans (x3.kp fun i => B ≤ i) (Kp.trans k5 kf (U := fun i => B ≤ i) (fun i _ ⟨a, ha, hi⟩ => ?_) fun i _ hi => ?_) (fun _ _ h => h) (fun _ _ h => h)
        · have := (ho.ge ha).1; omega
        · rw [hi]; exact hlow
      refine K _ hkp ?_
      rw [if_pos hmem]
      have ne : ∀ {q : Option Addr} {m' c' : Nat} {ys : List Value}, Owns w5 B ty_api_Owner 2 q m' c' ys → Owns (w5.putObj b (.map (es.modify i fun e => { e with val := Value.slice p3 (m + 1) c3 }) es.size)) B ty_api_Owner 2 q m' c' ys := fun o => o.kp kf fun a ha hi => by
        obtain ⟨cur, fr, ht⟩ := (o.typed ha).1
        rw [hi, hb5] at ht
        cases ht
      have hother : ∀ (j : Nat) (e' : MapEntry), es.toList[j]? = some e' → j ≠ i → ∀ {q : Option Addr} {m' c' : Nat} {ys : List Value}, e'.val = .slice q m' c' → Owns w3 B ty_api_Owner 2 q m' c' ys → Owns w5 B ty_api_Owner 2 q m' c' ys := fun j e' he' hji q m' c' ys hv' o => o.kp k5 fun a ha ⟨a', ha', hb'⟩ => by
        subst ha
        subst ha'
        exact hapart j i e' e he' he hji a m' c' a' m c hv' hv hb'.symm
      have hmod : ∀ (j : Nat) (e'' : MapEntry), (es.modify i fun e => { e with val := Value.slice p3 (m + 1) c3 }).toList[j]? = some e'' → (j = i ∧ e'' = { e with val := Value.slice p3 (m + 1) c3 }) ∨ (j ≠ i ∧ es.toList[j]? = some e'') := fun j e'' he'' => by
        rw [Array.toList_modify, List.getElem?_modify] at he''
        by_cases hji : i = j
        · subst hji
          rw [he] at he''
          left
          simp at he''
          exact ⟨rfl, he''.symm⟩
        · right
          refine ⟨fun h => hji h.symm, ?_⟩
          simpa [hji] using he''
      refine ⟨hlow, es.modify i fun e => { e with val := Value.slice p3 (m + 1) c3 }, ?_, ?_, ?_, ?_⟩
      · rw [World.putObj_heap_same hb5lt, Array.size_modify]
      · rw [← hkeys]
        apply List.ext_getElem?
        intro j
        rw [List.getElem?_map, List.getElem?_map, Array.toList_modify, List.getElem?_modify]
        cases es.toList[j]? with
        | none => rfl
        | some e' => simp only [Option.map_some]; split <;> rfl
      · intro j e'' he''
        rcases hmod j e'' he'' with ⟨rfl, rfl⟩ | ⟨hji, he'⟩
        · exact ⟨hborn, p3, m + 1, c3, _, rfl, ne o5, by omega⟩
        · obtain ⟨g1, q, m', c', ys, g2, g3, g4⟩ := hval j e'' he'
          exact ⟨g1, q, m', c', ys, g2, ne (hother j e'' he' hji g2 g3), by omega⟩
      · intro j1 j2 e1 e2 he1 he2 hne a1 m1 c1 a2 m2 c2 hv1 hv2
        have far : ∀ (j : Nat) (e' : MapEntry), es.toList[j]? = some e' → j ≠ i → ∀ a' m' c' a3, e'.val = .slice (some a') m' c' → p3 = some a3 → a3.block ≠ a'.block := fun j e' he' hji a' m' c' a3 hv' hp => by
          rcases hp3 with rfl | hnew
          · exact hapart i j e e' he he' (fun h => hji h.symm) a3 m c a' m' c' (by rw [hv, hp]) hv'
          · have h1 := hnew a3 hp
            obtain ⟨_, q, m'', c'', ys, g2, g3, _⟩ := hval j e' he'
            rw [hv'] at g2
            cases g2
            have := (g3.ge rfl).2
            omega
        rcases hmod j1 e1 he1 with ⟨rfl, rfl⟩ | ⟨h1, g1⟩
        · rcases hmod j2 e2 he2 with ⟨rfl, rfl⟩ | ⟨h2, g2⟩
          · exact absurd rfl hne
          · have hv1 : Value.slice p3 (m + 1) c3 = Value.slice (some a1) m1 c1 := hv1
            cases hv1
            exact far j2 e2 g2 h2 a2 m2 c2 a1 hv2 rfl
        · rcases hmod j2 e2 he2 with ⟨rfl, rfl⟩ | ⟨h2, g2⟩
          · have hv2 : Value.slice p3 (m + 1) c3 = Value.slice (some a2) m2 c2 := hv2
            cases hv2
            exact fun h => far j1 e1 g1 h1 a1 m1 c1 a2 hv1 rfl h.symm
          · exact hapart j1 j2 e1 e2 g1 g2 hne a1 m1 c1 a2 m2 c2 hv1 hv2
  · -- a new one
    left
    refine ⟨fun e he => ?_, fun w4 hw4 => ?_⟩
    · obtain ⟨j, hj⟩ := List.getElem?_of_mem he
      obtain ⟨y, hy, hyk⟩ := hentry j e hj
      exact ⟨plR (some y), plM (some y), hyk, key_apart hx (hks y (List.mem_of_getElem? hy)) (fun h => hmem (h ▸ List.mem_of_getElem? hy))⟩
    have kf := Kp.putObj w3 b (.map (es.push ⟨.complex .f64 (plR (some x)) (plM (some x)), .slice none 0 0, es.size⟩) (es.size + 1))
    have hb4 : w4.heap[b]? = some (.map (es.push ⟨.complex .f64 (plR (some x)) (plM (some x)), .slice none 0 0, es.size⟩) (es.size + 1)) := by
      rw [hw4]
      exact World.putObj_heap_same hblt
    rw [← hw4] at kf
    have t3 : ∀ {q : Option Addr} {m' c' : Nat} {ys : List Value}, Owns w3 B ty_api_Owner 2 q m' c' ys → Owns w4 B ty_api_Owner 2 q m' c' ys := fun o => o.kp kf fun a ha hi => by
      obtain ⟨cur, fr, ht⟩ := (o.typed ha).1
      rw [hi, hes] at ht
      cases ht
    try dsimp only [dI_i64, dI_u8, dI_u16, dI_u32, dB_bool, dS_slice, dP_ptr, dT_tup, dA_agg, dStr_str, dF_f, dC_c, dM_m, optP_some, ga0, ga1, ga2, ga3, ga4, cond_true, cond_false, chk_true, Bool.not_true, Bool.not_false, Option.isNone_none, Option.isNone_some, List.toList_toArray]
    refine appP_own2 (B := B) (Owns.nil w4 B ty_api_Owner 2) (by have := x3.size; have := kf.size; omega) [.int .i64 t4, .int .i64 t17] (t3 o3').cells rfl two_one rfl (by omega) (by omega) ?_
    intro p3 c3 w5 o5 k5 hp3
    have x5 : Ex w4 w5 := k5.mono fun i _ ⟨y, e, _⟩ => by cases e
    have hnew : ∀ a, p3 = some a → w4.heap.size ≤ a.block := fun a ha => by
      rcases hp3 with rfl | h
      · cases ha
      · exact h a ha
    have hb5 : w5.heap[b]? = some (.map (es.push ⟨.complex .f64 (plR (some x)) (plM (some x)), .slice none 0 0, es.size⟩) (es.size + 1)) := by
      rw [x5.block b (Array.getElem?_eq_some_iff.1 hb4).1 id]
      exact hb4
    generalize hpush : es.push ⟨.complex .f64 (plR (some x)) (plM (some x)), .slice none 0 0, es.size⟩ = es1 at hb4 hb5 ⊢
    have hsz : es1.size = es.size + 1 := by rw [← hpush, Array.size_push]
    have hget : ∀ (j : Nat) (e'' : MapEntry), es1.toList[j]? = some e'' → (j = es.size ∧ e'' = ⟨.complex .f64 (plR (some x)) (plM (some x)), .slice none 0 0, es.size⟩) ∨ (j < es.size ∧ es.toList[j]? = some e'') := fun j e'' he'' => by
      rw [← hpush, Array.toList_push] at he''
      by_cases hj : j < es.size
      · right
        rw [List.getElem?_append_left (by rw [Array.length_toList]; exact hj)] at he''
        exact ⟨hj, he''⟩
      · left
        rw [List.getElem?_append_right (by rw [Array.length_toList]; omega), Array.length_toList] at he''
        have hj0 : j - es.size = 0 := by
          cases hq : j - es.size with
          | zero => rfl
          | succ n => rw [hq] at he''; simp at he''
        rw [hj0] at he''
        exact ⟨by omega, by simpa using he''.symm⟩
    have hborn : ∀ (i : Nat) (e : MapEntry), es1.toList[i]? = some e → e.born = i := fun i e he => by
      rcases hget i e he with ⟨rfl, rfl⟩ | ⟨_, h⟩
      · rfl
      · exact (hval i e h).1
    refine ⟨es1, es.size + 1, es.size, hb5, findIdx_of hborn (by omega), fun w6 hw6 => ?_⟩
    have kg := Kp.putObj w5 b (.map (es1.modify es.size fun e => { e with val := Value.slice p3 (0 + 1) c3 }) (es.size + 1))
    rw [← hw6] at kg
    have hb5lt : b < w5.heap.size := (Array.getElem?_eq_some_iff.1 hb5).1
    have t5 : ∀ {q : Option Addr} {m' c' : Nat} {ys : List Value}, Owns w5 B ty_api_Owner 2 q m' c' ys → Owns w6 B ty_api_Owner 2 q m' c' ys := fun o => o.kp kg fun a ha hi => by
      obtain ⟨cur, fr, ht⟩ := (o.typed ha).1
      rw [hi, hb5] at ht
      cases ht
    have hkp : Kp w w6 (fun i => B ≤ i) := by
      refine Kp.trans (x3.kp fun i => B ≤ i) (Kp.trans kf (Kp.trans x5 kg (U := fun i => B ≤ i) (fun _ _ h => h.elim) fun i _ hi => ?_) (U := fun i => B ≤ i) (fun i _ hi => ?_) (fun _ _ h => h)) (fun _ _ h => h) (fun _ _ h => h)
      · rw [hi]; exact hlow
      · rw [hi]; exact hlow
    refine K _ hkp ?_
    rw [if_neg hmem]
    have hmod : ∀ (j : Nat) (e'' : MapEntry), (es1.modify es.size fun e => { e with val := Value.slice p3 (0 + 1) c3 }).toList[j]? = some e'' → (j = es.size ∧ e'' = ⟨.complex .f64 (plR (some x)) (plM (some x)), Value.slice p3 (0 + 1) c3, es.size⟩) ∨ (j < es.size ∧ es.toList[j]? = some e'') := fun j e'' he'' => by
      rw [Array.toList_modify, List.getElem?_modify] at he''
      by_cases hji : es.size = j
      · subst hji
        left
        cases hq : es1.toList[es.size]? with
        | none => rw [hq] at he''; simp at he''
        | some e0 =>
          rcases hget _ e0 hq with ⟨_, rfl⟩ | ⟨h, _⟩
          · rw [hq] at he''
            simp at he''
            exact ⟨rfl, he''.symm⟩
          · omega
      · have he3 : es1.toList[j]? = some e'' := by simpa [hji] using he''
        rcases hget _ e'' he3 with ⟨h, _⟩ | h
        · omega
        · exact .inr h
    refine ⟨hlow, es1.modify es.size fun e => { e with val := Value.slice p3 (0 + 1) c3 }, ?_, ?_, ?_, ?_⟩
    · rw [hw6, World.putObj_heap_same hb5lt, Array.size_modify, hsz]
    · rw [List.map_append, ← hkeys]
      have e1 : (es1.modify es.size fun e => { e with val := Value.slice p3 (0 + 1) c3 }).toList.map (·.key) = es1.toList.map (·.key) := by
        apply List.ext_getElem?
        intro j
        rw [List.getElem?_map, List.getElem?_map, Array.toList_modify, List.getElem?_modify]
        cases es1.toList[j]? with
        | none => rfl
        | some e' => simp only [Option.map_some]; split <;> rfl
      rw [e1, ← hpush, Array.toList_push, List.map_append]
      rfl
    · intro j e'' he''
      rcases hmod j e'' he'' with ⟨rfl, rfl⟩ | ⟨hj, he'⟩
      · exact ⟨rfl, p3, 0 + 1, c3, _, rfl, t5 o5, by omega⟩
      · obtain ⟨g1, q, m', c', ys, g2, g3, g4⟩ := hval j e'' he'
        exact ⟨g1, q, m', c', ys, g2, t5 ((t3 g3).ex x5), by omega⟩
    · intro j1 j2 e1 e2 he1 he2 hne a1 m1 c1 a2 m2 c2 hv1 hv2
      have far : ∀ (j : Nat) (e' : MapEntry), es.toList[j]? = some e' → ∀ a' m' c' a3, e'.val = .slice (some a') m' c' → p3 = some a3 → a3.block ≠ a'.block := fun j e' he' a' m' c' a3 hv' hp => by
        have h1 := hnew a3 hp
        obtain ⟨_, q, m'', c'', ys, g2, g3, _⟩ := hval j e' he'
        rw [hv'] at g2
        cases g2
        have := (g3.ge rfl).2
        have := kf.size
        omega
      rcases hmod j1 e1 he1 with ⟨rfl, rfl⟩ | ⟨h1, g1⟩
      · rcases hmod j2 e2 he2 with ⟨rfl, rfl⟩ | ⟨h2, g2⟩
        · exact absurd rfl hne
        · have hv1 : Value.slice p3 (0 + 1) c3 = Value.slice (some a1) m1 c1 := hv1
          cases hv1
          exact far j2 e2 g2 a2 m2 c2 a1 hv2 rfl
      · rcases hmod j2 e2 he2 with ⟨rfl, rfl⟩ | ⟨h2, g2⟩
        · have hv2 : Value.slice p3 (0 + 1) c3 = Value.slice (some a2) m2 c2 := hv2
          cases hv2
          exact fun h => far j1 e1 g1 a1 m1 c1 a2 hv1 rfl h.symm
        · exact hapart j1 j2 e1 e2 g1 g2 hne a1 m1 c1 a2 m2 c2 hv1 hv2
end Go.Proofs.Ythgmebhkbbehmaa.G
