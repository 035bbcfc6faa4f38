/-
  The device: its memory, and what its small functions do.
-/
import Derived.Test.YticdeknmeafjcaaG1
import Derived.Test.YticdeknmeafjcaaG2
import Derived.Test.YticdeknmeafjcaaG3
import Derived.Test.YticdeknmeafjcaaDecV
namespace Go.Proofs.Yticdeknmeafjcaa.G
open Go.Dec Go.RowKit
set_option linter.unusedVariables false
set_option linter.unusedSimpArgs false

/-! ### The device, plain -/
structure Dev where
  sure : List (List Int)
  now : List (List Int)
  loose : List (Int × List Int)
  after : Int
  off : Bool
def Sec (s : List Int) : Prop := s.length = 64 ∧ ∀ x ∈ s, 0 ≤ x ∧ x < 256
structure Good (d : Dev) : Prop where
  len : d.sure.length = d.now.length
  few : d.now.length ≤ 424
  sure : ∀ s ∈ d.sure, Sec s
  now : ∀ s ∈ d.now, Sec s
  loose : ∀ p ∈ d.loose, 0 ≤ p.1 ∧ p.1 < (d.now.length : Int) ∧ Sec p.2
  after : -1 ≤ d.after ∧ d.after ≤ 9223372036854775807
def zsec : List Int := List.replicate 64 0
def fresh (n : Nat) : Dev := ⟨List.replicate n zsec, List.replicate n zsec, [], -1, false⟩
def spend (d : Dev) : Dev := if d.after = 0 then { d with off := true } else if d.after > 0 then { d with after := d.after - 1 } else d
theorem zsec_ok : Sec zsec := ⟨by simp [zsec], fun x hx => by have := List.eq_of_mem_replicate hx; omega⟩
theorem reps_ok (n : Nat) : ∀ s ∈ List.replicate n zsec, Sec s := fun s hs => by
  rw [List.eq_of_mem_replicate hs]
  exact zsec_ok
theorem fresh_good {n : Nat} (h : n ≤ 424) : Good (fresh n) where
  len := by simp [fresh]
  few := by simpa [fresh] using h
  sure := reps_ok n
  now := reps_ok n
  loose := fun p hp => by cases hp
  after := by simp [fresh]
theorem spend_same (d : Dev) : (spend d).sure = d.sure ∧ (spend d).now = d.now ∧ (spend d).loose = d.loose := by
  unfold spend; split
  · exact ⟨rfl, rfl, rfl⟩
  · split <;> exact ⟨rfl, rfl, rfl⟩
theorem spend_good {d : Dev} (h : Good d) : Good (spend d) := by
  obtain ⟨h1, h2, h3⟩ := spend_same d
  refine ⟨by rw [h1, h2]; exact h.len, by rw [h2]; exact h.few, by rw [h1]; exact h.sure, by rw [h2]; exact h.now, by rw [h2, h3]; exact h.loose, ?_⟩
  have := h.after
  unfold spend; split
  · exact this
  · split
    · dsimp only; omega
    · exact this

/-! ### Cells -/
def u8s (x : List Int) : List Value := x.map (Value.int .u8)
def secs (l : List (List Int)) : List Value := (l.map u8s).flatten
def looseRow (p : Int × List Int) : List Value := .int .i64 p.1 :: u8s p.2
def looseCells (l : List (Int × List Int)) : List Value := (l.map looseRow).flatten
theorem u8s_len (x : List Int) : (u8s x).length = x.length := by simp [u8s]
theorem u8s_one (x : List Int) : ∀ y ∈ u8s x, y.oneCell' = true := vals_one _ _
theorem secs_len {l : List (List Int)} (h : ∀ s ∈ l, Sec s) : ∀ r ∈ l.map u8s, r.length = 64 := by
  intro r hr
  obtain ⟨s, hs, rfl⟩ := List.mem_map.1 hr
  rw [u8s_len]; exact (h s hs).1
theorem secs_size {l : List (List Int)} (h : ∀ s ∈ l, Sec s) : (secs l).length = l.length * 64 := by
  unfold secs
  rw [flatten_len _ 64 (secs_len h), List.length_map]
theorem secs_one (l : List (List Int)) : ∀ y ∈ secs l, y.oneCell' = true := by
  intro y hy
  obtain ⟨r, hr, hy⟩ := List.mem_flatten.1 hy
  obtain ⟨s, _, rfl⟩ := List.mem_map.1 hr
  exact u8s_one s y hy
theorem secs_rep (n : Nat) : secs (List.replicate n zsec) = List.replicate (n * 64) (Value.int .u8 0) := by
  induction n with
  | zero => simp [secs]
  | succ n ih =>
    unfold secs at ih ⊢
    rw [List.replicate_succ, List.map_cons, List.flatten_cons, ih]
    simp only [u8s, zsec, List.map_replicate, List.replicate_append_replicate]
    congr 1
    omega

/-! ### The device, in memory -/
structure DevAt (w : World) (B pd : Nat) (d : Dev) (bs bn : Nat) (pl : Option Addr) (ml : Nat) : Prop where
  cell : Own w B 62 5 (some ⟨pd, 0, none⟩) 1 1 [.slice (some ⟨bs, 0, none⟩) d.now.length d.now.length, .slice (some ⟨bn, 0, none⟩) d.now.length d.now.length, .slice pl d.loose.length ml, .int .i64 d.after, .bool d.off]
  su : Own w B 66 64 (some ⟨bs, 0, none⟩) d.now.length d.now.length (secs d.sure)
  no : Own w B 66 64 (some ⟨bn, 0, none⟩) d.now.length d.now.length (secs d.now)
  lo : Own w B 68 65 pl d.loose.length ml (looseCells d.loose)
  ne : bs ≠ bn
def Its (pd bs bn : Nat) (pl : Option Addr) (i : Nat) : Prop := i = pd ∨ i = bs ∨ i = bn ∨ ∃ x, pl = some x ∧ x.block = i
def DevIs (w : World) (B pd : Nat) (d : Dev) (D : Nat → Prop) : Prop := ∃ bs bn pl ml, DevAt w B pd d bs bn pl ml ∧ ∀ i, D i ↔ Its pd bs bn pl i
theorem DevAt.typed {w : World} {B pd : Nat} {d : Dev} {bs bn : Nat} {pl : Option Addr} {ml : Nat} (h : DevAt w B pd d bs bn pl ml) {i : Nat} (hi : Its pd bs bn pl i) : (Typed w 62 i ∨ Typed w 66 i ∨ Typed w 68 i) ∧ B ≤ i ∧ i < w.heap.size := by
  rcases hi with rfl | rfl | rfl | ⟨x, hx, rfl⟩
  · exact ⟨.inl (h.cell.typed rfl).1, (h.cell.typed rfl).2⟩
  · exact ⟨.inr (.inl (h.su.typed rfl).1), (h.su.typed rfl).2⟩
  · exact ⟨.inr (.inl (h.no.typed rfl).1), (h.no.typed rfl).2⟩
  · exact ⟨.inr (.inr (h.lo.typed hx).1), (h.lo.typed hx).2⟩
theorem DevAt.kp {w w' : World} {S : Nat → Prop} {B pd : Nat} {d : Dev} {bs bn : Nat} {pl : Option Addr} {ml : Nat} (h : DevAt w B pd d bs bn pl ml) (hk : Kp w w' S) (hs : ∀ i, Its pd bs bn pl i → ¬ S i) : DevAt w' B pd d bs bn pl ml :=
  ⟨h.cell.kp hk fun x hx => by cases hx; exact hs _ (.inl rfl), h.su.kp hk fun x hx => by cases hx; exact hs _ (.inr (.inl rfl)), h.no.kp hk fun x hx => by cases hx; exact hs _ (.inr (.inr (.inl rfl))), h.lo.kp hk fun x hx => hs _ (.inr (.inr (.inr ⟨x, hx, rfl⟩))), h.ne⟩
theorem DevAt.ex {w w' : World} {B pd : Nat} {d : Dev} {bs bn : Nat} {pl : Option Addr} {ml : Nat} (h : DevAt w B pd d bs bn pl ml) (hk : Ex w w') : DevAt w' B pd d bs bn pl ml := h.kp hk fun _ _ h => h
theorem DevIs.typed {w : World} {B pd : Nat} {d : Dev} {D : Nat → Prop} (h : DevIs w B pd d D) {i : Nat} (hi : D i) : (Typed w 62 i ∨ Typed w 66 i ∨ Typed w 68 i) ∧ B ≤ i ∧ i < w.heap.size := by
  obtain ⟨bs, bn, pl, ml, h, hD⟩ := h
  exact h.typed ((hD i).1 hi)
theorem DevIs.kp {w w' : World} {S : Nat → Prop} {B pd : Nat} {d : Dev} {D : Nat → Prop} (h : DevIs w B pd d D) (hk : Kp w w' S) (hs : ∀ i, D i → ¬ S i) : DevIs w' B pd d D := by
  obtain ⟨bs, bn, pl, ml, h, hD⟩ := h
  exact ⟨bs, bn, pl, ml, h.kp hk fun i hi => hs i ((hD i).2 hi), hD⟩
theorem DevIs.ex {w w' : World} {B pd : Nat} {d : Dev} {D : Nat → Prop} (h : DevIs w B pd d D) (hk : Ex w w') : DevIs w' B pd d D := h.kp hk fun _ _ h => h
/-- what is no part of the device stays -/
theorem off_dev {w w' : World} {B B' pd : Nat} {d : Dev} {D : Nat → Prop} (h : DevIs w B pd d D) (hk : Kp w w' D) {e : TypeId} {sz : Nat} {p : Option Addr} {n c : Nat} {xs : List Value} (o : Own w B' e sz p n c xs) (h1 : e ≠ 62) (h2 : e ≠ 66) (h3 : e ≠ 68) : Own w' B' e sz p n c xs :=
  o.kp hk fun x hx hm => by
    have ht := (o.typed hx).1
    rcases (h.typed hm).1 with hm | hm | hm
    · exact ht.ne hm h1 rfl
    · exact ht.ne hm h2 rfl
    · exact ht.ne hm h3 rfl
/-- the struct itself is written -/
theorem DevAt.field {w w' : World} {B pd : Nat} {d : Dev} {bs bn : Nat} {pl : Option Addr} {ml : Nat} (h : DevAt w B pd d bs bn pl ml) (k : Kp w w' fun i => i = pd) {a : Int} {f : Bool}
    (o : Own w' B 62 5 (some ⟨pd, 0, none⟩) 1 1 [.slice (some ⟨bs, 0, none⟩) d.now.length d.now.length, .slice (some ⟨bn, 0, none⟩) d.now.length d.now.length, .slice pl d.loose.length ml, .int .i64 a, .bool f]) : DevAt w' B pd { d with after := a, off := f } bs bn pl ml := by
  have t : ∀ i, i = pd → Typed w 62 i := fun i hi => hi ▸ (h.cell.typed rfl).1
  exact ⟨o, h.su.away k 62 t (by decide), h.no.away k 62 t (by decide), h.lo.away k 62 t (by decide), h.ne⟩

/-! ### Rows that stay while the device changes -/
def CellsK (w : World) (D : Nat → Prop) (p : Option Addr) (xs : List Value) : Prop := ∀ w', Kp w w' D → CellsO w' p xs
theorem CellsK.now {w : World} {D : Nat → Prop} {p : Option Addr} {xs : List Value} (h : CellsK w D p xs) : CellsO w p xs := h w (Kp.refl _ _)
theorem CellsK.step {w w1 : World} {D D1 : Nat → Prop} {p : Option Addr} {xs : List Value} (h : CellsK w D p xs) (k : Kp w w1 D) (hD : ∀ i, i < w.heap.size → D1 i → D i) : CellsK w1 D1 p xs :=
  fun w' k' => h w' (Kp.trans k k' (fun _ _ h => h) hD)
theorem CellsK.of_ex {w0 w : World} {D : Nat → Prop} {p : Option Addr} {xs : List Value} (h : CellsO w0 p xs) (hx : Ex w0 w) (hD : ∀ i, D i → w0.heap.size ≤ i) : CellsK w D p xs := fun w' k => h.ex (hx.then k hD)
theorem CellsK.of_own {w : World} {B B' pd : Nat} {d : Dev} {D : Nat → Prop} (h : DevIs w B pd d D) {e : TypeId} {sz : Nat} {p : Option Addr} {n c : Nat} {xs : List Value} (o : Own w B' e sz p n c xs) (h1 : e ≠ 62) (h2 : e ≠ 66) (h3 : e ≠ 68) : CellsK w D p xs := fun w' k => (off_dev h k o h1 h2 h3).cells

/-! ### Small functions -/
theorem ready_spec {w : World} {B pd : Nat} {d : Dev} {D : Nat → Prop} (h : DevIs w B pd d D) : basin_Basin_ready.C (some ⟨pd, 0, none⟩) w (Ret fun v w' => v = .int .i64 (if d.off then 10 else 0) ∧ w' = w) := by
  apply basin_Basin_ready.ok
  unfold basin_Basin_ready.main
  obtain ⟨bs, bn, pl, ml, h, hD⟩ := h
  try dsimp only [dI_i64, dI_u8, dI_u16, dI_u32, dB_bool, dS_slice, dP_ptr, dT_tup, dA_agg, dStr_str, dF_f, dC_c, dM_m, optP_some, ga0, ga1, ga2, ga3, ga4, cond_true, cond_false, chk_true, Bool.not_true, Bool.not_false, Option.isNone_none, Option.isNone_some, List.toList_toArray]
  simp only [addr1]
  refine ⟨_, h.cell.at (j := 4) rfl, cond_of (fun hc => ?_) (fun hc => ?_)⟩ <;> rw [hc] <;> exact Ret.mk ⟨rfl, rfl⟩
theorem ready_none (w : World) : basin_Basin_ready.C none w (Ret fun v w' => v = .int .i64 1 ∧ w' = w) := by
  apply basin_Basin_ready.ok
  unfold basin_Basin_ready.main
  try dsimp only [dI_i64, dI_u8, dI_u16, dI_u32, dB_bool, dS_slice, dP_ptr, dT_tup, dA_agg, dStr_str, dF_f, dC_c, dM_m, optP_some, ga0, ga1, ga2, ga3, ga4, cond_true, cond_false, chk_true, Bool.not_true, Bool.not_false, Option.isNone_none, Option.isNone_some, List.toList_toArray]
  exact Ret.mk ⟨rfl, rfl⟩
theorem Size_spec {w : World} {B pd : Nat} {d : Dev} {D : Nat → Prop} (h : DevIs w B pd d D) : basin_Basin_Size.C (some ⟨pd, 0, none⟩) w (Ret fun v w' => v = .int .i64 (d.now.length : Int) ∧ w' = w) := by
  apply basin_Basin_Size.ok
  unfold basin_Basin_Size.main
  obtain ⟨bs, bn, pl, ml, h, hD⟩ := h
  try dsimp only [dI_i64, dI_u8, dI_u16, dI_u32, dB_bool, dS_slice, dP_ptr, dT_tup, dA_agg, dStr_str, dF_f, dC_c, dM_m, optP_some, ga0, ga1, ga2, ga3, ga4, cond_true, cond_false, chk_true, Bool.not_true, Bool.not_false, Option.isNone_none, Option.isNone_some, List.toList_toArray]
  simp only [addr1]
  exact ⟨_, _, _, h.cell.at (j := 1) rfl, Ret.mk ⟨rfl, rfl⟩⟩
theorem Size_none (w : World) : basin_Basin_Size.C none w (Ret fun v w' => v = .int .i64 0 ∧ w' = w) := by
  apply basin_Basin_Size.ok
  unfold basin_Basin_Size.main
  try dsimp only [dI_i64, dI_u8, dI_u16, dI_u32, dB_bool, dS_slice, dP_ptr, dT_tup, dA_agg, dStr_str, dF_f, dC_c, dM_m, optP_some, ga0, ga1, ga2, ga3, ga4, cond_true, cond_false, chk_true, Bool.not_true, Bool.not_false, Option.isNone_none, Option.isNone_some, List.toList_toArray]
  exact Ret.mk ⟨rfl, rfl⟩
theorem Loose_spec {w : World} {B pd : Nat} {d : Dev} {D : Nat → Prop} (h : DevIs w B pd d D) : basin_Basin_Loose.C (some ⟨pd, 0, none⟩) w (Ret fun v w' => v = .int .i64 (d.loose.length : Int) ∧ w' = w) := by
  apply basin_Basin_Loose.ok
  unfold basin_Basin_Loose.main
  obtain ⟨bs, bn, pl, ml, h, hD⟩ := h
  try dsimp only [dI_i64, dI_u8, dI_u16, dI_u32, dB_bool, dS_slice, dP_ptr, dT_tup, dA_agg, dStr_str, dF_f, dC_c, dM_m, optP_some, ga0, ga1, ga2, ga3, ga4, cond_true, cond_false, chk_true, Bool.not_true, Bool.not_false, Option.isNone_none, Option.isNone_some, List.toList_toArray]
  simp only [addr1]
  exact ⟨_, _, _, h.cell.at (j := 2) rfl, Ret.mk ⟨rfl, rfl⟩⟩
theorem Loose_none (w : World) : basin_Basin_Loose.C none w (Ret fun v w' => v = .int .i64 0 ∧ w' = w) := by
  apply basin_Basin_Loose.ok
  unfold basin_Basin_Loose.main
  try dsimp only [dI_i64, dI_u8, dI_u16, dI_u32, dB_bool, dS_slice, dP_ptr, dT_tup, dA_agg, dStr_str, dF_f, dC_c, dM_m, optP_some, ga0, ga1, ga2, ga3, ga4, cond_true, cond_false, chk_true, Bool.not_true, Bool.not_false, Option.isNone_none, Option.isNone_some, List.toList_toArray]
  exact Ret.mk ⟨rfl, rfl⟩
theorem spend_spec {w : World} {B pd : Nat} {d : Dev} {D : Nat → Prop} (h : DevIs w B pd d D) (hg : Good d) : basin_Basin_spend.C (some ⟨pd, 0, none⟩) w (Ret fun v w' => v = .bool (spend d).off ∧ DevIs w' B pd (spend d) D ∧ Kp w w' D) := by
  apply basin_Basin_spend.ok
  unfold basin_Basin_spend.main
  obtain ⟨bs, bn, pl, ml, h, hD⟩ := h
  have hpd : ∀ i, i = pd → D i := fun i hi => (hD i).2 (.inl hi)
  have ha := hg.after
  try dsimp only [dI_i64, dI_u8, dI_u16, dI_u32, dB_bool, dS_slice, dP_ptr, dT_tup, dA_agg, dStr_str, dF_f, dC_c, dM_m, optP_some, ga0, ga1, ga2, ga3, ga4, cond_true, cond_false, chk_true, Bool.not_true, Bool.not_false, Option.isNone_none, Option.isNone_some, List.toList_toArray]
  simp only [addr1]
  unfold spend
  refine ⟨_, h.cell.at (j := 3) rfl, cond_of (fun hc => ?_) (fun hc => ?_)⟩
  · have hc : d.after = 0 := by simpa using hc
    rw [if_pos hc]
    refine h.cell.put1 (j := 4) (by show 4 < 1 * 5; omega) rfl fun w1 k1 o1 => ?_
    exact ⟨_, o1.at (j := 4) rfl, Ret.mk ⟨rfl, ⟨bs, bn, pl, ml, h.field k1 o1, hD⟩, k1.mono fun i _ hi => hpd i hi⟩⟩
  · have hc : ¬ d.after = 0 := by simpa using hc
    rw [if_neg hc]
    refine ⟨_, h.cell.at (j := 3) rfl, cond_of (fun hc2 => ?_) (fun hc2 => ?_)⟩
    · have hc2 := of_decide_eq_true hc2
      rw [if_pos hc2]
      refine ⟨_, h.cell.at (j := 3) rfl, ?_⟩
      rw [w64 (by omega) (by omega)]
      refine h.cell.put1 (j := 3) (by show 3 < 1 * 5; omega) rfl fun w1 k1 o1 => ?_
      exact ⟨_, o1.at (j := 4) rfl, Ret.mk ⟨rfl, ⟨bs, bn, pl, ml, h.field k1 o1, hD⟩, k1.mono fun i _ hi => hpd i hi⟩⟩
    · have hc2 := of_decide_eq_false hc2
      rw [if_neg hc2]
      exact ⟨_, h.cell.at (j := 4) rfl, Ret.mk ⟨rfl, ⟨bs, bn, pl, ml, h, hD⟩, Kp.refl _ _⟩⟩
theorem Fail_spec {w : World} {B pd : Nat} {d : Dev} {D : Nat → Prop} (h : DevIs w B pd d D) (n : Int) : basin_Basin_Fail.C (some ⟨pd, 0, none⟩) n w (Ret fun v w' => v = .tuple #[] ∧ DevIs w' B pd { d with after := max2 n (-1) } D ∧ Kp w w' D) := by
  apply basin_Basin_Fail.ok
  unfold basin_Basin_Fail.main
  obtain ⟨bs, bn, pl, ml, h, hD⟩ := h
  try dsimp only [dI_i64, dI_u8, dI_u16, dI_u32, dB_bool, dS_slice, dP_ptr, dT_tup, dA_agg, dStr_str, dF_f, dC_c, dM_m, optP_some, ga0, ga1, ga2, ga3, ga4, cond_true, cond_false, chk_true, Bool.not_true, Bool.not_false, Option.isNone_none, Option.isNone_some, List.toList_toArray]
  simp only [addr1]
  refine h.cell.put1 (j := 3) (by show 3 < 1 * 5; omega) rfl fun w1 k1 o1 => ?_
  exact Ret.mk ⟨rfl, ⟨bs, bn, pl, ml, h.field k1 o1, hD⟩, k1.mono fun i _ hi => (hD i).2 (.inl hi)⟩
theorem Fail_none (n : Int) (w : World) : basin_Basin_Fail.C none n w (Ret fun v w' => v = .tuple #[] ∧ w' = w) := by
  apply basin_Basin_Fail.ok
  unfold basin_Basin_Fail.main
  rw [cond_neg (by rfl)]
  exact Ret.mk ⟨rfl, rfl⟩
theorem New_spec (n : Int) (w : World) (hn : 1 ≤ n ∧ n ≤ 424) : basin_New.C n w (Ret fun v w' => ∃ pd D, v = .tuple #[.pointer (some ⟨pd, 0, none⟩), .int .i64 0] ∧ Ex w w' ∧ DevIs w' w.heap.size pd (fresh n.toNat) D) := by
  apply basin_New.ok
  unfold basin_New.main
  rw [condd_neg (by omega), condd_neg (by omega)]
  have fin : ∀ (w1 w2 : World) (b1 b2 : Nat), Ex w w1 → Ex w1 w2 → b1 < w1.heap.size → b1 ≠ b2 → w.heap.size ≤ b1 → w.heap.size ≤ b2 → Own w2 w.heap.size 66 64 (some ⟨b1, 0, none⟩) n.toNat n.toNat (List.replicate (n.toNat * 64) (Value.int .u8 0)) → Own w2 w.heap.size 66 64 (some ⟨b2, 0, none⟩) n.toNat n.toNat (List.replicate (n.toNat * 64) (Value.int .u8 0)) →
      newP w2 #[(Value.slice (some ⟨b1, 0, none⟩) n.toNat n.toNat), (Value.slice (some ⟨b2, 0, none⟩) n.toNat n.toNat), (Value.slice none 0 0), (Value.int .i64 (-1)), (Value.bool false)] 62 fun b3 w3 => Ret (fun v w' => ∃ pd D, v = .tuple #[.pointer (some ⟨pd, 0, none⟩), .int .i64 0] ∧ Ex w w' ∧ DevIs w' w.heap.size pd (fresh n.toNat) D) (.returned (Value.tuple #[(Value.pointer (some (⟨b3, 0, none⟩ : Addr))), (Value.int .i64 0)])) w3 := by
    intro w1 w2 b1 b2 x1 x2 hlt hne hb1 hb2 o1 o2
    rintro b3 w3 rfl rfl
    have o3 := Own.new (w := w2) [.slice (some ⟨b1, 0, none⟩) n.toNat n.toNat, .slice (some ⟨b2, 0, none⟩) n.toNat n.toNat, .slice none 0 0, .int .i64 (-1), .bool false] 62
    have x3 := Ex.alloc w2 (.cells #[.slice (some ⟨b1, 0, none⟩) n.toNat n.toNat, .slice (some ⟨b2, 0, none⟩) n.toNat n.toNat, .slice none 0 0, .int .i64 (-1), .bool false] 62)
    refine Ret.mk ⟨w2.heap.size, _, rfl, (x1.trans x2).trans x3, b1, b2, none, 0, ⟨?_, ?_, ?_, ?_, hne⟩, fun i => Iff.rfl⟩
    · have := o3.lower (x1.trans x2).size
      simpa [fresh] using this
    · have := o1.ex x3
      simpa [fresh, secs_rep] using this
    · have := o2.ex x3
      simpa [fresh, secs_rep] using this
    · exact Own.nil _ _ _ _
  have two : ∀ (K : Nat → Nat → World → Prop), (∀ b1 b2 w2, b1 = w.heap.size → b2 = w.heap.size + 1 → Ex w w2 → Own w2 w.heap.size 66 64 (some ⟨b1, 0, none⟩) n.toNat n.toNat (List.replicate (n.toNat * 64) (Value.int .u8 0)) → Own w2 w.heap.size 66 64 (some ⟨b2, 0, none⟩) n.toNat n.toNat (List.replicate (n.toNat * 64) (Value.int .u8 0)) → K b1 b2 w2) →
      (chk (decide (0 ≤ n)) (chk (decide (n ≤ n)) (chk (decide ((64 : Int) * n ≤ 281474976710656 ∧ n ≤ 9223372036854775807)) (newP w.drew (madeCells (List.replicate 64 (Value.int .u8 0)).toArray (n.toNat * 64)) 66 fun b1 w1 =>
        chk (decide (0 ≤ n)) (chk (decide (n ≤ n)) (chk (decide ((64 : Int) * n ≤ 281474976710656 ∧ n ≤ 9223372036854775807)) (newP w1 (madeCells (List.replicate 64 (Value.int .u8 0)).toArray (n.toNat * 64)) 66 fun b2 w2 => K b1 b2 w2)))))))  := by
    intro K hK
    refine chkd_of (by omega) (chkd_of (by omega) (chkd_of (by omega) ?_))
    rintro b1 w1 rfl rfl
    refine chkd_of (by omega) (chkd_of (by omega) (chkd_of (by omega) ?_))
    rintro b2 w2 rfl rfl
    rw [madeCells_rep 64 _ _ (by decide)]
    have o1 := Own.alloc (w := w.drew) (List.replicate (n.toNat * 64) (Value.int .u8 0)) 66 64 n.toNat (by simp)
    have x1 : Ex w (w.drew.alloc (.cells (List.replicate (n.toNat * 64) (Value.int .u8 0)).toArray 66)) := (Ex.drew w).trans (Ex.alloc _ _)
    have hs : (w.drew.alloc (.cells (List.replicate (n.toNat * 64) (Value.int .u8 0)).toArray 66)).heap.size = w.heap.size + 1 := by
      show (w.heap.push _).size = _
      simp
    generalize w.drew.alloc (.cells (List.replicate (n.toNat * 64) (Value.int .u8 0)).toArray 66) = w1 at o1 x1 hs ⊢
    have o2 := Own.alloc (w := w1) (List.replicate (n.toNat * 64) (Value.int .u8 0)) 66 64 n.toNat (by simp)
    have x2 := Ex.alloc w1 (.cells (List.replicate (n.toNat * 64) (Value.int .u8 0)).toArray 66)
    exact hK _ _ _ rfl hs (x1.trans x2) (o1.ex x2) (o2.lower (by omega))
  refine ⟨two _ fun b1 b2 w2 e1 e2 x o1 o2 => ?_, two _ fun b1 b2 w2 e1 e2 x o1 o2 => ?_⟩
  · exact fin w2 w2 b1 b2 x (Ex.refl _) (o1.typed rfl).2.2 (by omega) (by omega) (by omega) o1 o2
  · exact fin w2 w2 b2 b1 x (Ex.refl _) (o2.typed rfl).2.2 (by omega) (by omega) (by omega) o2 o1
theorem New_bad (n : Int) (w : World) (hn : ¬ (1 ≤ n ∧ n ≤ 424)) : basin_New.C n w (Ret fun v w' => v = .tuple #[.pointer none, .int .i64 1] ∧ Ex w w') := by
  apply basin_New.ok
  unfold basin_New.main
  refine cond_of (fun _ => Ret.mk ⟨rfl, Ex.refl w⟩) (fun h1 => cond_of (fun _ => Ret.mk ⟨rfl, Ex.refl w⟩) (fun h2 => ?_))
  have := of_decide_eq_false h1
  have := of_decide_eq_false h2
  omega

theorem Clone_spec (p : Option Addr) (n c : Nat) (xs : List Value) (w : World) (hc : CellsO w p xs) (hl : xs.length = n) (hn : n ≤ 140737488351232) (h1 : ∀ y ∈ xs, y.oneCell' = true) :
    bytes_Clone.C p n c w (Ret fun v w' => ∃ p' c', v = .slice p' n c' ∧ Ex w w' ∧ Own w' w.heap.size 5 1 p' n c' xs) := by
  apply bytes_Clone.ok
  unfold bytes_Clone.main
  cases p with
  | none =>
    have : xs = [] := hc
    subst this
    have : n = 0 := by simpa using hl.symm
    subst this
    try dsimp only [dI_i64, dI_u8, dI_u16, dI_u32, dB_bool, dS_slice, dP_ptr, dT_tup, dA_agg, dStr_str, dF_f, dC_c, dM_m, optP_some, ga0, ga1, ga2, ga3, ga4, cond_true, cond_false, chk_true, Bool.not_true, Bool.not_false, Option.isNone_none, Option.isNone_some, List.toList_toArray]
    exact Ret.mk ⟨none, 0, rfl, Ex.refl w, Own.nil _ _ _ _⟩
  | some a =>
    try dsimp only [dI_i64, dI_u8, dI_u16, dI_u32, dB_bool, dS_slice, dP_ptr, dT_tup, dA_agg, dStr_str, dF_f, dC_c, dM_m, optP_some, ga0, ga1, ga2, ga3, ga4, cond_true, cond_false, chk_true, Bool.not_true, Bool.not_false, Option.isNone_none, Option.isNone_some, List.toList_toArray]
    rintro b1 w1 rfl rfl
    have ho := Own.alloc (w := w) [] 5 1 0 rfl
    have hx := Ex.alloc w (.cells #[] 5)
    refine appP_own ho (by have := hx.size; exact this) xs (CellsO.ex hx hc) (by omega) h1 rfl (by omega) (by omega) (fun p' c' w' ho' hk => ?_)
    rw [Nat.zero_add] at ho' ⊢
    rw [List.nil_append] at ho'
    exact Ret.mk ⟨p', c', rfl, hx.then hk (fun i ⟨x, e, hi⟩ => by cases e; exact Nat.le_of_eq hi), ho'⟩
/-- what Get answers -/
def got (d : Dev) (i : Int) : Int := if d.off then 10 else if i < 0 ∨ (d.now.length : Int) ≤ i then 5 else 0
theorem Get_spec {w : World} {B pd : Nat} {d : Dev} {D : Nat → Prop} (h : DevIs w B pd d D) (hg : Good d) (i : Int) : basin_Basin_Get.C (some ⟨pd, 0, none⟩) i w (Ret fun v w' => Ex w w' ∧ ((got d i ≠ 0 ∧ v = .tuple #[.slice none 0 0, .int .i64 (got d i)]) ∨
    (got d i = 0 ∧ ∃ p c s, d.now[i.toNat]? = some s ∧ v = .tuple #[.slice p 64 c, .int .i64 0] ∧ Own w' w.heap.size 5 1 p 64 c (u8s s)))) := by
  apply basin_Basin_Get.ok
  unfold basin_Basin_Get.main
  refine callP.use (ready_spec h) ?_
  rintro _ w1 ⟨rfl, rfl⟩
  obtain ⟨bs, bn, pl, ml, h, hD⟩ := h
  try dsimp only [dI_i64, dI_u8, dI_u16, dI_u32, dB_bool, dS_slice, dP_ptr, dT_tup, dA_agg, dStr_str, dF_f, dC_c, dM_m, optP_some, ga0, ga1, ga2, ga3, ga4, cond_true, cond_false, chk_true, Bool.not_true, Bool.not_false, Option.isNone_none, Option.isNone_some, List.toList_toArray]
  unfold got
  cases hoff : d.off with
  | true =>
    simp only [if_true]
    rw [cond_pos (by decide)]
    exact Ret.mk ⟨Ex.refl _, .inl ⟨by decide, rfl⟩⟩
  | false =>
    simp only [Bool.false_eq_true, if_false]
    rw [cond_neg (by decide)]
    simp only [addr1]
    refine cond_of (fun hc => ?_) (fun hc => ?_)
    · have hc := of_decide_eq_true hc
      rw [if_pos (.inl hc)]
      exact Ret.mk ⟨Ex.refl _, .inl ⟨by decide, rfl⟩⟩
    have hc := of_decide_eq_false hc
    refine ⟨_, _, _, h.cell.at (j := 1) rfl, cond_of (fun hc2 => ?_) (fun hc2 => ?_)⟩
    · have hc2 := of_decide_eq_true hc2
      rw [if_pos (.inr (by omega))]
      exact Ret.mk ⟨Ex.refl _, .inl ⟨by decide, rfl⟩⟩
    have hc2 := of_decide_eq_false hc2
    rw [if_neg (by omega)]
    refine ⟨_, _, _, h.cell.at (j := 1) rfl, chkd_of (by omega) (chkd_of (by omega) ?_)⟩
    have hlt : i.toNat < d.now.length := by omega
    have hs := List.getElem?_eq_getElem hlt
    have hsec := hg.now _ (List.getElem_mem hlt)
    obtain ⟨a, ha, hcell⟩ := (h.no.cells).row (rows := d.now.map u8s) (secs_len hg.now) (by decide) (i := i.toNat) (r := u8s d.now[i.toNat]) (by rw [List.getElem?_map, hs]; rfl)
    cases ha
    have e0 : slA (some ((⟨bn, 0, none⟩ : Addr).add (i.toNat * 64))) 64 0 1 = some ((⟨bn, 0, none⟩ : Addr).add (i.toNat * 64)) := by
      unfold slA
      rw [if_neg (by decide), Option.map_some]
      exact congrArg some (Addr.add_zero' _)
    try dsimp only [dI_i64, dI_u8, dI_u16, dI_u32, dB_bool, dS_slice, dP_ptr, dT_tup, dA_agg, dStr_str, dF_f, dC_c, dM_m, optP_some, ga0, ga1, ga2, ga3, ga4, cond_true, cond_false, chk_true, Bool.not_true, Bool.not_false, Option.isNone_none, Option.isNone_some, List.toList_toArray]
    rw [e0]
    refine callP.use (Clone_spec _ 64 64 (u8s d.now[i.toNat]) _ hcell (by rw [u8s_len]; exact hsec.1) (by omega) (u8s_one _)) ?_
    rintro _ w3 ⟨p', c', rfl, x3, o3⟩
    try dsimp only [dI_i64, dI_u8, dI_u16, dI_u32, dB_bool, dS_slice, dP_ptr, dT_tup, dA_agg, dStr_str, dF_f, dC_c, dM_m, optP_some, ga0, ga1, ga2, ga3, ga4, cond_true, cond_false, chk_true, Bool.not_true, Bool.not_false, Option.isNone_none, Option.isNone_some, List.toList_toArray]
    exact Ret.mk ⟨x3, .inr ⟨rfl, p', c', _, hs, rfl, o3⟩⟩
theorem Get_none (i : Int) (w : World) : basin_Basin_Get.C none i w (Ret fun v w' => v = .tuple #[.slice none 0 0, .int .i64 1] ∧ w' = w) := by
  apply basin_Basin_Get.ok
  unfold basin_Basin_Get.main
  refine callP.use (ready_none w) ?_
  rintro _ w1 ⟨rfl, rfl⟩
  try dsimp only [dI_i64, dI_u8, dI_u16, dI_u32, dB_bool, dS_slice, dP_ptr, dT_tup, dA_agg, dStr_str, dF_f, dC_c, dM_m, optP_some, ga0, ga1, ga2, ga3, ga4, cond_true, cond_false, chk_true, Bool.not_true, Bool.not_false, Option.isNone_none, Option.isNone_some, List.toList_toArray]
  rw [cond_pos (by decide)]
  exact Ret.mk ⟨rfl, rfl⟩
end Go.Proofs.Yticdeknmeafjcaa.G
