/-
  basin, turned from the texts of seat c05 by wip/tool/port.py.
-/
import Derived.Test.YthgmebhkbbehmaaG0
import Derived.Test.YthgmebhkbbehmaaG1
import Derived.Test.YthgmebhkbbehmaaG2
import Derived.Test.YthgmebhkbbehmaaG3
import Derived.Test.YthgmebhkbbehmaaG4
import Derived.Test.YthgmebhkbbehmaaG5
import Derived.Test.YthgmebhkbbehmaaDecW
namespace Go.Proofs.Ythgmebhkbbehmaa.G.Bas
open Go.Dec Go.RowKit
set_option linter.unusedVariables false
set_option linter.unusedSimpArgs false

/-! ### The device, plain -/
structure Dev where
  sure : List (List Int)
  now : List (List Int)
  loose : List (Int × List Int)
  after : Int
  off : Bool
def Sec (s : List Int) : Prop := s.length = 64 ∧ ∀ x ∈ s, 0 ≤ x ∧ x < 256
structure Good (d : Dev) : Prop where
  len : d.sure.length = d.now.length
  few : d.now.length ≤ 424
  sure : ∀ s ∈ d.sure, Sec s
  now : ∀ s ∈ d.now, Sec s
  loose : ∀ p ∈ d.loose, 0 ≤ p.1 ∧ p.1 < (d.now.length : Int) ∧ Sec p.2
  after : -1 ≤ d.after ∧ d.after ≤ 9223372036854775807
def zsec : List Int := List.replicate 64 0
def fresh (n : Nat) : Dev := ⟨List.replicate n zsec, List.replicate n zsec, [], -1, false⟩
def spend (d : Dev) : Dev := if d.after = 0 then { d with off := true } else if d.after > 0 then { d with after := d.after - 1 } else d
theorem zsec_ok : Sec zsec := ⟨by simp [zsec], fun x hx => by have := List.eq_of_mem_replicate hx; omega⟩
theorem reps_ok (n : Nat) : ∀ s ∈ List.replicate n zsec, Sec s := fun s hs => by
  rw [List.eq_of_mem_replicate hs]
  exact zsec_ok
theorem fresh_good {n : Nat} (h : n ≤ 424) : Good (fresh n) where
  len := by simp [fresh]
  few := by simpa [fresh] using h
  sure := reps_ok n
  now := reps_ok n
  loose := fun p hp => by cases hp
  after := by simp [fresh]
theorem spend_same (d : Dev) : (spend d).sure = d.sure ∧ (spend d).now = d.now ∧ (spend d).loose = d.loose := by
  unfold spend; split
  · exact ⟨rfl, rfl, rfl⟩
  · split <;> exact ⟨rfl, rfl, rfl⟩
theorem spend_good {d : Dev} (h : Good d) : Good (spend d) := by
  obtain ⟨h1, h2, h3⟩ := spend_same d
  refine ⟨by rw [h1, h2]; exact h.len, by rw [h2]; exact h.few, by rw [h1]; exact h.sure, by rw [h2]; exact h.now, by rw [h2, h3]; exact h.loose, ?_⟩
  have := h.after
  unfold spend; split
  · exact this
  · split
    · dsimp only; omega
    · exact this

/-! ### Cells -/
def u8s (x : List Int) : List Value := x.map (Value.int .u8)
def secs (l : List (List Int)) : List Value := (l.map u8s).flatten
def looseRow (p : Int × List Int) : List Value := .int .i64 p.1 :: u8s p.2
def looseCells (l : List (Int × List Int)) : List Value := (l.map looseRow).flatten
theorem u8s_len (x : List Int) : (u8s x).length = x.length := by simp [u8s]
theorem u8s_one (x : List Int) : ∀ y ∈ u8s x, y.oneCell' = true := vals_one _ _
theorem secs_len {l : List (List Int)} (h : ∀ s ∈ l, Sec s) : ∀ r ∈ l.map u8s, r.length = 64 := by
  intro r hr
  obtain ⟨s, hs, rfl⟩ := List.mem_map.1 hr
  rw [u8s_len]; exact (h s hs).1
theorem secs_size {l : List (List Int)} (h : ∀ s ∈ l, Sec s) : (secs l).length = l.length * 64 := by
  unfold secs
  rw [flatten_len _ 64 (secs_len h), List.length_map]
theorem secs_one (l : List (List Int)) : ∀ y ∈ secs l, y.oneCell' = true := by
  intro y hy
  obtain ⟨r, hr, hy⟩ := List.mem_flatten.1 hy
  obtain ⟨s, _, rfl⟩ := List.mem_map.1 hr
  exact u8s_one s y hy
theorem secs_rep (n : Nat) : secs (List.replicate n zsec) = List.replicate (n * 64) (Value.int .u8 0) := by
  induction n with
  | zero => simp [secs]
  | succ n ih =>
    unfold secs at ih ⊢
    rw [List.replicate_succ, List.map_cons, List.flatten_cons, ih]
    simp only [u8s, zsec, List.map_replicate, List.replicate_append_replicate]
    congr 1
    omega

/-! ### The device, in memory -/
structure DevAt (w : World) (B pd : Nat) (d : Dev) (bs bn : Nat) (pl : Option Addr) (ml : Nat) : Prop where
  cell : Owns w B 67 5 (some ⟨pd, 0, none⟩) 1 1 [.slice (some ⟨bs, 0, none⟩) d.now.length d.now.length, .slice (some ⟨bn, 0, none⟩) d.now.length d.now.length, .slice pl d.loose.length ml, .int .i64 d.after, .bool d.off]
  su : Owns w B 73 64 (some ⟨bs, 0, none⟩) d.now.length d.now.length (secs d.sure)
  no : Owns w B 73 64 (some ⟨bn, 0, none⟩) d.now.length d.now.length (secs d.now)
  lo : Owns w B 75 65 pl d.loose.length ml (looseCells d.loose)
  ne : bs ≠ bn
def Its (pd bs bn : Nat) (pl : Option Addr) (i : Nat) : Prop := i = pd ∨ i = bs ∨ i = bn ∨ ∃ x, pl = some x ∧ x.block = i
def DevIs (w : World) (B pd : Nat) (d : Dev) (D : Nat → Prop) : Prop := ∃ bs bn pl ml, DevAt w B pd d bs bn pl ml ∧ ∀ i, D i ↔ Its pd bs bn pl i
theorem DevAt.typed {w : World} {B pd : Nat} {d : Dev} {bs bn : Nat} {pl : Option Addr} {ml : Nat} (h : DevAt w B pd d bs bn pl ml) {i : Nat} (hi : Its pd bs bn pl i) : (Typed w 67 i ∨ Typed w 73 i ∨ Typed w 75 i) ∧ B ≤ i ∧ i < w.heap.size := by
  rcases hi with rfl | rfl | rfl | ⟨x, hx, rfl⟩
  · exact ⟨.inl (h.cell.typed rfl).1, (h.cell.typed rfl).2⟩
  · exact ⟨.inr (.inl (h.su.typed rfl).1), (h.su.typed rfl).2⟩
  · exact ⟨.inr (.inl (h.no.typed rfl).1), (h.no.typed rfl).2⟩
  · exact ⟨.inr (.inr (h.lo.typed hx).1), (h.lo.typed hx).2⟩
theorem DevAt.kp {w w' : World} {S : Nat → Prop} {B pd : Nat} {d : Dev} {bs bn : Nat} {pl : Option Addr} {ml : Nat} (h : DevAt w B pd d bs bn pl ml) (hk : Kp w w' S) (hs : ∀ i, Its pd bs bn pl i → ¬ S i) : DevAt w' B pd d bs bn pl ml :=
  ⟨h.cell.kp hk fun x hx => by cases hx; exact hs _ (.inl rfl), h.su.kp hk fun x hx => by cases hx; exact hs _ (.inr (.inl rfl)), h.no.kp hk fun x hx => by cases hx; exact hs _ (.inr (.inr (.inl rfl))), h.lo.kp hk fun x hx => hs _ (.inr (.inr (.inr ⟨x, hx, rfl⟩))), h.ne⟩
theorem DevAt.ex {w w' : World} {B pd : Nat} {d : Dev} {bs bn : Nat} {pl : Option Addr} {ml : Nat} (h : DevAt w B pd d bs bn pl ml) (hk : Ex w w') : DevAt w' B pd d bs bn pl ml := h.kp hk fun _ _ h => h
theorem DevIs.typed {w : World} {B pd : Nat} {d : Dev} {D : Nat → Prop} (h : DevIs w B pd d D) {i : Nat} (hi : D i) : (Typed w 67 i ∨ Typed w 73 i ∨ Typed w 75 i) ∧ B ≤ i ∧ i < w.heap.size := by
  obtain ⟨bs, bn, pl, ml, h, hD⟩ := h
  exact h.typed ((hD i).1 hi)
theorem DevIs.kp {w w' : World} {S : Nat → Prop} {B pd : Nat} {d : Dev} {D : Nat → Prop} (h : DevIs w B pd d D) (hk : Kp w w' S) (hs : ∀ i, D i → ¬ S i) : DevIs w' B pd d D := by
  obtain ⟨bs, bn, pl, ml, h, hD⟩ := h
  exact ⟨bs, bn, pl, ml, h.kp hk fun i hi => hs i ((hD i).2 hi), hD⟩
theorem DevIs.ex {w w' : World} {B pd : Nat} {d : Dev} {D : Nat → Prop} (h : DevIs w B pd d D) (hk : Ex w w') : DevIs w' B pd d D := h.kp hk fun _ _ h => h
/-- what is no part of the device stays -/
theorem off_dev {w w' : World} {B B' pd : Nat} {d : Dev} {D : Nat → Prop} (h : DevIs w B pd d D) (hk : Kp w w' D) {e : TypeId} {sz : Nat} {p : Option Addr} {n c : Nat} {xs : List Value} (o : Owns w B' e sz p n c xs) (h1 : e ≠ 67) (h2 : e ≠ 73) (h3 : e ≠ 75) : Owns w' B' e sz p n c xs :=
  o.kp hk fun x hx hm => by
    have ht := (o.typed hx).1
    rcases (h.typed hm).1 with hm | hm | hm
    · exact ht.ne hm h1 rfl
    · exact ht.ne hm h2 rfl
    · exact ht.ne hm h3 rfl
/-- the struct itself is written -/
theorem DevAt.field {w w' : World} {B pd : Nat} {d : Dev} {bs bn : Nat} {pl : Option Addr} {ml : Nat} (h : DevAt w B pd d bs bn pl ml) (k : Kp w w' fun i => i = pd) {a : Int} {f : Bool}
    (o : Owns w' B 67 5 (some ⟨pd, 0, none⟩) 1 1 [.slice (some ⟨bs, 0, none⟩) d.now.length d.now.length, .slice (some ⟨bn, 0, none⟩) d.now.length d.now.length, .slice pl d.loose.length ml, .int .i64 a, .bool f]) : DevAt w' B pd { d with after := a, off := f } bs bn pl ml := by
  have t : ∀ i, i = pd → Typed w 67 i := fun i hi => hi ▸ (h.cell.typed rfl).1
  exact ⟨o, h.su.away k 67 t (by decide), h.no.away k 67 t (by decide), h.lo.away k 67 t (by decide), h.ne⟩

/-! ### Rows that stay while the device changes -/
def CellsK (w : World) (D : Nat → Prop) (p : Option Addr) (xs : List Value) : Prop := ∀ w', Kp w w' D → CellsO w' p xs
theorem CellsK.now {w : World} {D : Nat → Prop} {p : Option Addr} {xs : List Value} (h : CellsK w D p xs) : CellsO w p xs := h w (Kp.refl _ _)
theorem CellsK.step {w w1 : World} {D D1 : Nat → Prop} {p : Option Addr} {xs : List Value} (h : CellsK w D p xs) (k : Kp w w1 D) (hD : ∀ i, i < w.heap.size → D1 i → D i) : CellsK w1 D1 p xs :=
  fun w' k' => h w' (Kp.trans k k' (fun _ _ h => h) hD)
theorem CellsK.of_ex {w0 w : World} {D : Nat → Prop} {p : Option Addr} {xs : List Value} (h : CellsO w0 p xs) (hx : Ex w0 w) (hD : ∀ i, D i → w0.heap.size ≤ i) : CellsK w D p xs := fun w' k => h.ex (hx.then k hD)
theorem CellsK.of_own {w : World} {B B' pd : Nat} {d : Dev} {D : Nat → Prop} (h : DevIs w B pd d D) {e : TypeId} {sz : Nat} {p : Option Addr} {n c : Nat} {xs : List Value} (o : Owns w B' e sz p n c xs) (h1 : e ≠ 67) (h2 : e ≠ 73) (h3 : e ≠ 75) : CellsK w D p xs := fun w' k => (off_dev h k o h1 h2 h3).cells

/-! ### Small functions -/
theorem ready_spec {w : World} {B pd : Nat} {d : Dev} {D : Nat → Prop} (h : DevIs w B pd d D) : basin_Basin_ready.C (some ⟨pd, 0, none⟩) w (Ret fun v w' => v = .int .i64 (if d.off then 10 else 0) ∧ w' = w) := by
  apply basin_Basin_ready.ok
  unfold basin_Basin_ready.main
  obtain ⟨bs, bn, pl, ml, h, hD⟩ := h
  try dsimp only [dI_i64, dI_u8, dI_u16, dI_u32, dB_bool, dS_slice, dP_ptr, dT_tup, dA_agg, dStr_str, dF_f, dC_c, dM_m, optP_some, ga0, ga1, ga2, ga3, ga4, cond_true, cond_false, chk_true, Bool.not_true, Bool.not_false, Option.isNone_none, Option.isNone_some, List.toList_toArray]
  simp only [addr1]
  refine ⟨_, h.cell.at (j := 4) rfl, cond_of (fun hc => ?_) (fun hc => ?_)⟩ <;> rw [hc] <;> exact Ret.mk ⟨rfl, rfl⟩
theorem ready_none (w : World) : basin_Basin_ready.C none w (Ret fun v w' => v = .int .i64 1 ∧ w' = w) := by
  apply basin_Basin_ready.ok
  unfold basin_Basin_ready.main
  try dsimp only [dI_i64, dI_u8, dI_u16, dI_u32, dB_bool, dS_slice, dP_ptr, dT_tup, dA_agg, dStr_str, dF_f, dC_c, dM_m, optP_some, ga0, ga1, ga2, ga3, ga4, cond_true, cond_false, chk_true, Bool.not_true, Bool.not_false, Option.isNone_none, Option.isNone_some, List.toList_toArray]
  exact Ret.mk ⟨rfl, rfl⟩
theorem spend_spec {w : World} {B pd : Nat} {d : Dev} {D : Nat → Prop} (h : DevIs w B pd d D) (hg : Good d) : basin_Basin_spend.C (some ⟨pd, 0, none⟩) w (Ret fun v w' => v = .bool (spend d).off ∧ DevIs w' B pd (spend d) D ∧ Kp w w' D) := by
  apply basin_Basin_spend.ok
  unfold basin_Basin_spend.main
  obtain ⟨bs, bn, pl, ml, h, hD⟩ := h
  have hpd : ∀ i, i = pd → D i := fun i hi => (hD i).2 (.inl hi)
  have ha := hg.after
  try dsimp only [dI_i64, dI_u8, dI_u16, dI_u32, dB_bool, dS_slice, dP_ptr, dT_tup, dA_agg, dStr_str, dF_f, dC_c, dM_m, optP_some, ga0, ga1, ga2, ga3, ga4, cond_true, cond_false, chk_true, Bool.not_true, Bool.not_false, Option.isNone_none, Option.isNone_some, List.toList_toArray]
  simp only [addr1]
  unfold spend
  refine ⟨_, h.cell.at (j := 3) rfl, cond_of (fun hc => ?_) (fun hc => ?_)⟩
  · have hc : d.after = 0 := by simpa using hc
    rw [if_pos hc]
    refine h.cell.put1 (j := 4) (by show 4 < 1 * 5; omega) rfl fun w1 k1 o1 => ?_
    exact ⟨_, o1.at (j := 4) rfl, Ret.mk ⟨rfl, ⟨bs, bn, pl, ml, h.field k1 o1, hD⟩, k1.mono fun i _ hi => hpd i hi⟩⟩
  · have hc : ¬ d.after = 0 := by simpa using hc
    rw [if_neg hc]
    refine ⟨_, h.cell.at (j := 3) rfl, cond_of (fun hc2 => ?_) (fun hc2 => ?_)⟩
    · have hc2 := of_decide_eq_true hc2
      rw [if_pos hc2]
      refine ⟨_, h.cell.at (j := 3) rfl, ?_⟩
      rw [w64 (by omega) (by omega)]
      refine h.cell.put1 (j := 3) (by show 3 < 1 * 5; omega) rfl fun w1 k1 o1 => ?_
      exact ⟨_, o1.at (j := 4) rfl, Ret.mk ⟨rfl, ⟨bs, bn, pl, ml, h.field k1 o1, hD⟩, k1.mono fun i _ hi => hpd i hi⟩⟩
    · have hc2 := of_decide_eq_false hc2
      rw [if_neg hc2]
      exact ⟨_, h.cell.at (j := 4) rfl, Ret.mk ⟨rfl, ⟨bs, bn, pl, ml, h, hD⟩, Kp.refl _ _⟩⟩
theorem New_spec (n : Int) (w : World) (hn : 1 ≤ n ∧ n ≤ 424) : basin_New.C n w (Ret fun v w' => ∃ pd D, v = .tuple #[.pointer (some ⟨pd, 0, none⟩), .int .i64 0] ∧ Ex w w' ∧ DevIs w' w.heap.size pd (fresh n.toNat) D) := by
  apply basin_New.ok
  unfold basin_New.main
  rw [condd_neg (by omega), condd_neg (by omega)]
  have fin : ∀ (w1 w2 : World) (b1 b2 : Nat), Ex w w1 → Ex w1 w2 → b1 < w1.heap.size → b1 ≠ b2 → w.heap.size ≤ b1 → w.heap.size ≤ b2 → Owns w2 w.heap.size 73 64 (some ⟨b1, 0, none⟩) n.toNat n.toNat (List.replicate (n.toNat * 64) (Value.int .u8 0)) → Owns w2 w.heap.size 73 64 (some ⟨b2, 0, none⟩) n.toNat n.toNat (List.replicate (n.toNat * 64) (Value.int .u8 0)) →
      newP w2 #[(Value.slice (some ⟨b1, 0, none⟩) n.toNat n.toNat), (Value.slice (some ⟨b2, 0, none⟩) n.toNat n.toNat), (Value.slice none 0 0), (Value.int .i64 (-1)), (Value.bool false)] 67 fun b3 w3 => Ret (fun v w' => ∃ pd D, v = .tuple #[.pointer (some ⟨pd, 0, none⟩), .int .i64 0] ∧ Ex w w' ∧ DevIs w' w.heap.size pd (fresh n.toNat) D) (.returned (Value.tuple #[(Value.pointer (some (⟨b3, 0, none⟩ : Addr))), (Value.int .i64 0)])) w3 := by
    intro w1 w2 b1 b2 x1 x2 hlt hne hb1 hb2 o1 o2
    rintro b3 w3 rfl rfl
    have o3 := Owns.new (w := w2) [.slice (some ⟨b1, 0, none⟩) n.toNat n.toNat, .slice (some ⟨b2, 0, none⟩) n.toNat n.toNat, .slice none 0 0, .int .i64 (-1), .bool false] 67
    have x3 := Ex.alloc w2 (.cells #[.slice (some ⟨b1, 0, none⟩) n.toNat n.toNat, .slice (some ⟨b2, 0, none⟩) n.toNat n.toNat, .slice none 0 0, .int .i64 (-1), .bool false] 67)
    refine Ret.mk ⟨w2.heap.size, _, rfl, (x1.trans x2).trans x3, b1, b2, none, 0, ⟨?_, ?_, ?_, ?_, hne⟩, fun i => Iff.rfl⟩
    · have := o3.lower (x1.trans x2).size
      simpa [fresh] using this
    · have := o1.ex x3
      simpa [fresh, secs_rep] using this
    · have := o2.ex x3
      simpa [fresh, secs_rep] using this
    · exact Owns.nil _ _ _ _
  have two : ∀ (K : Nat → Nat → World → Prop), (∀ b1 b2 w2, b1 = w.heap.size → b2 = w.heap.size + 1 → Ex w w2 → Owns w2 w.heap.size 73 64 (some ⟨b1, 0, none⟩) n.toNat n.toNat (List.replicate (n.toNat * 64) (Value.int .u8 0)) → Owns w2 w.heap.size 73 64 (some ⟨b2, 0, none⟩) n.toNat n.toNat (List.replicate (n.toNat * 64) (Value.int .u8 0)) → K b1 b2 w2) →
      (chk (decide (0 ≤ n)) (chk (decide (n ≤ n)) (chk (decide ((64 : Int) * n ≤ 281474976710656 ∧ n ≤ 9223372036854775807)) (newP w.drew (madeCells (List.replicate 64 (Value.int .u8 0)).toArray (n.toNat * 64)) 73 fun b1 w1 =>
        chk (decide (0 ≤ n)) (chk (decide (n ≤ n)) (chk (decide ((64 : Int) * n ≤ 281474976710656 ∧ n ≤ 9223372036854775807)) (newP w1 (madeCells (List.replicate 64 (Value.int .u8 0)).toArray (n.toNat * 64)) 73 fun b2 w2 => K b1 b2 w2)))))))  := by
    intro K hK
    refine chkd_of (by omega) (chkd_of (by omega) (chkd_of (by omega) ?_))
    rintro b1 w1 rfl rfl
    refine chkd_of (by omega) (chkd_of (by omega) (chkd_of (by omega) ?_))
    rintro b2 w2 rfl rfl
    rw [madeCells_rep 64 _ _ (by decide)]
    have o1 := Owns.alloc (w := w.drew) (List.replicate (n.toNat * 64) (Value.int .u8 0)) 73 64 n.toNat (by simp)
    have x1 : Ex w (w.drew.alloc (.cells (List.replicate (n.toNat * 64) (Value.int .u8 0)).toArray 73)) := (Ex.drew w).trans (Ex.alloc _ _)
    have hs : (w.drew.alloc (.cells (List.replicate (n.toNat * 64) (Value.int .u8 0)).toArray 73)).heap.size = w.heap.size + 1 := by
      show (w.heap.push _).size = _
      simp
    generalize w.drew.alloc (.cells (List.replicate (n.toNat * 64) (Value.int .u8 0)).toArray 73) = w1 at o1 x1 hs ⊢
    have o2 := Owns.alloc (w := w1) (List.replicate (n.toNat * 64) (Value.int .u8 0)) 73 64 n.toNat (by simp)
    have x2 := Ex.alloc w1 (.cells (List.replicate (n.toNat * 64) (Value.int .u8 0)).toArray 73)
    exact hK _ _ _ rfl hs (x1.trans x2) (o1.ex x2) (o2.lower (by omega))
  refine ⟨two _ fun b1 b2 w2 e1 e2 x o1 o2 => ?_, two _ fun b1 b2 w2 e1 e2 x o1 o2 => ?_⟩
  · exact fin w2 w2 b1 b2 x (Ex.refl _) (o1.typed rfl).2.2 (by omega) (by omega) (by omega) o1 o2
  · exact fin w2 w2 b2 b1 x (Ex.refl _) (o2.typed rfl).2.2 (by omega) (by omega) (by omega) o2 o1
theorem New_bad (n : Int) (w : World) (hn : ¬ (1 ≤ n ∧ n ≤ 424)) : basin_New.C n w (Ret fun v w' => v = .tuple #[.pointer none, .int .i64 1] ∧ Ex w w') := by
  apply basin_New.ok
  unfold basin_New.main
  refine cond_of (fun _ => Ret.mk ⟨rfl, Ex.refl w⟩) (fun h1 => cond_of (fun _ => Ret.mk ⟨rfl, Ex.refl w⟩) (fun h2 => ?_))
  have := of_decide_eq_false h1
  have := of_decide_eq_false h2
  omega

theorem Clone_spec (p : Option Addr) (n c : Nat) (xs : List Value) (w : World) (hc : CellsO w p xs) (hl : xs.length = n) (hn : n ≤ 140737488351232) (h1 : ∀ y ∈ xs, y.oneCell' = true) :
    bytes_Clone.C p n c w (Ret fun v w' => ∃ p' c', v = .slice p' n c' ∧ Ex w w' ∧ Owns w' w.heap.size 5 1 p' n c' xs) := by
  apply bytes_Clone.ok
  unfold bytes_Clone.main
  cases p with
  | none =>
    have : xs = [] := hc
    subst this
    have : n = 0 := by simpa using hl.symm
    subst this
    try dsimp only [dI_i64, dI_u8, dI_u16, dI_u32, dB_bool, dS_slice, dP_ptr, dT_tup, dA_agg, dStr_str, dF_f, dC_c, dM_m, optP_some, ga0, ga1, ga2, ga3, ga4, cond_true, cond_false, chk_true, Bool.not_true, Bool.not_false, Option.isNone_none, Option.isNone_some, List.toList_toArray]
    exact Ret.mk ⟨none, 0, rfl, Ex.refl w, Owns.nil _ _ _ _⟩
  | some a =>
    try dsimp only [dI_i64, dI_u8, dI_u16, dI_u32, dB_bool, dS_slice, dP_ptr, dT_tup, dA_agg, dStr_str, dF_f, dC_c, dM_m, optP_some, ga0, ga1, ga2, ga3, ga4, cond_true, cond_false, chk_true, Bool.not_true, Bool.not_false, Option.isNone_none, Option.isNone_some, List.toList_toArray]
    rintro b1 w1 rfl rfl
    have ho := Owns.alloc (w := w) [] 5 1 0 rfl
    have hx := Ex.alloc w (.cells #[] 5)
    refine appP_own ho (by have := hx.size; exact this) xs (CellsO.ex hx hc) (by omega) h1 rfl (by omega) (by omega) (fun p' c' w' ho' hk => ?_)
    rw [Nat.zero_add] at ho' ⊢
    rw [List.nil_append] at ho'
    exact Ret.mk ⟨p', c', rfl, hx.then hk (fun i ⟨x, e, hi⟩ => by cases e; exact Nat.le_of_eq hi), ho'⟩
/-- what Get answers -/
def got (d : Dev) (i : Int) : Int := if d.off then 10 else if i < 0 ∨ (d.now.length : Int) ≤ i then 5 else 0
theorem Get_spec {w : World} {B pd : Nat} {d : Dev} {D : Nat → Prop} (h : DevIs w B pd d D) (hg : Good d) (i : Int) : basin_Basin_Get.C (some ⟨pd, 0, none⟩) i w (Ret fun v w' => Ex w w' ∧ ((got d i ≠ 0 ∧ v = .tuple #[.slice none 0 0, .int .i64 (got d i)]) ∨
    (got d i = 0 ∧ ∃ p c s, d.now[i.toNat]? = some s ∧ v = .tuple #[.slice p 64 c, .int .i64 0] ∧ Owns w' w.heap.size 5 1 p 64 c (u8s s)))) := by
  apply basin_Basin_Get.ok
  unfold basin_Basin_Get.main
  refine callP.use (ready_spec h) ?_
  rintro _ w1 ⟨rfl, rfl⟩
  obtain ⟨bs, bn, pl, ml, h, hD⟩ := h
  try dsimp only [dI_i64, dI_u8, dI_u16, dI_u32, dB_bool, dS_slice, dP_ptr, dT_tup, dA_agg, dStr_str, dF_f, dC_c, dM_m, optP_some, ga0, ga1, ga2, ga3, ga4, cond_true, cond_false, chk_true, Bool.not_true, Bool.not_false, Option.isNone_none, Option.isNone_some, List.toList_toArray]
  unfold got
  cases hoff : d.off with
  | true =>
    simp only [if_true]
    rw [cond_pos (by decide)]
    exact Ret.mk ⟨Ex.refl _, .inl ⟨by decide, rfl⟩⟩
  | false =>
    simp only [Bool.false_eq_true, if_false]
    rw [cond_neg (by decide)]
    simp only [addr1]
    refine cond_of (fun hc => ?_) (fun hc => ?_)
    · have hc := of_decide_eq_true hc
      rw [if_pos (.inl hc)]
      exact Ret.mk ⟨Ex.refl _, .inl ⟨by decide, rfl⟩⟩
    have hc := of_decide_eq_false hc
    refine ⟨_, _, _, h.cell.at (j := 1) rfl, cond_of (fun hc2 => ?_) (fun hc2 => ?_)⟩
    · have hc2 := of_decide_eq_true hc2
      rw [if_pos (.inr (by omega))]
      exact Ret.mk ⟨Ex.refl _, .inl ⟨by decide, rfl⟩⟩
    have hc2 := of_decide_eq_false hc2
    rw [if_neg (by omega)]
    refine ⟨_, _, _, h.cell.at (j := 1) rfl, chkd_of (by omega) (chkd_of (by omega) ?_)⟩
    have hlt : i.toNat < d.now.length := by omega
    have hs := List.getElem?_eq_getElem hlt
    have hsec := hg.now _ (List.getElem_mem hlt)
    obtain ⟨a, ha, hcell⟩ := (h.no.cells).row (rows := d.now.map u8s) (secs_len hg.now) (by decide) (i := i.toNat) (r := u8s d.now[i.toNat]) (by rw [List.getElem?_map, hs]; rfl)
    cases ha
    have e0 : slA (some ((⟨bn, 0, none⟩ : Addr).add (i.toNat * 64))) 64 0 1 = some ((⟨bn, 0, none⟩ : Addr).add (i.toNat * 64)) := by
      unfold slA
      rw [if_neg (by decide), Option.map_some]
      exact congrArg some (Addr.add_zero' _)
    try dsimp only [dI_i64, dI_u8, dI_u16, dI_u32, dB_bool, dS_slice, dP_ptr, dT_tup, dA_agg, dStr_str, dF_f, dC_c, dM_m, optP_some, ga0, ga1, ga2, ga3, ga4, cond_true, cond_false, chk_true, Bool.not_true, Bool.not_false, Option.isNone_none, Option.isNone_some, List.toList_toArray]
    rw [e0]
    refine callP.use (Clone_spec _ 64 64 (u8s d.now[i.toNat]) _ hcell (by rw [u8s_len]; exact hsec.1) (by omega) (u8s_one _)) ?_
    rintro _ w3 ⟨p', c', rfl, x3, o3⟩
    try dsimp only [dI_i64, dI_u8, dI_u16, dI_u32, dB_bool, dS_slice, dP_ptr, dT_tup, dA_agg, dStr_str, dF_f, dC_c, dM_m, optP_some, ga0, ga1, ga2, ga3, ga4, cond_true, cond_false, chk_true, Bool.not_true, Bool.not_false, Option.isNone_none, Option.isNone_some, List.toList_toArray]
    exact Ret.mk ⟨x3, .inr ⟨rfl, p', c', _, hs, rfl, o3⟩⟩
theorem Get_none (i : Int) (w : World) : basin_Basin_Get.C none i w (Ret fun v w' => v = .tuple #[.slice none 0 0, .int .i64 1] ∧ w' = w) := by
  apply basin_Basin_Get.ok
  unfold basin_Basin_Get.main
  refine callP.use (ready_none w) ?_
  rintro _ w1 ⟨rfl, rfl⟩
  try dsimp only [dI_i64, dI_u8, dI_u16, dI_u32, dB_bool, dS_slice, dP_ptr, dT_tup, dA_agg, dStr_str, dF_f, dC_c, dM_m, optP_some, ga0, ga1, ga2, ga3, ga4, cond_true, cond_false, chk_true, Bool.not_true, Bool.not_false, Option.isNone_none, Option.isNone_some, List.toList_toArray]
  rw [cond_pos (by decide)]
  exact Ret.mk ⟨rfl, rfl⟩

/-- a write that is handed in -/
structure Wt where
  i : Int
  bs : List Int
  p : Option Addr
  n : Nat
  c : Nat
def Wt.cells (x : Wt) : List Value := [.int .i64 x.i, .slice x.p x.n x.c]
structure WtOk (w : World) (D : Nat → Prop) (x : Wt) : Prop where
  cells : CellsK w D x.p (u8s x.bs)
  len : x.bs.length = x.n
  wf : ∀ b ∈ x.bs, 0 ≤ b ∧ b < 256
theorem two_one {a : Int} {p : Option Addr} {n m : Nat} : ∀ y ∈ [Value.int .i64 a, .slice p n m], y.oneCell' = true := by
  intro y hy
  simp only [List.mem_cons, List.not_mem_nil, or_false] at hy
  rcases hy with rfl | rfl <;> rfl
def put1 (d : Dev) (i : Int) (s : List Int) : Dev := { d with now := d.now.set i.toNat s, loose := d.loose ++ [(i, s)] }
def putAll : Dev → List (Int × List Int) → Dev × Int
  | d, [] => (d, 0)
  | d, x :: r => if (spend d).off then (spend d, 10) else putAll (put1 (spend d) x.1 x.2) r
def wide (x : Int × List Int) : Bool := x.2.length != 64
def out (n : Nat) (x : Int × List Int) : Bool := decide (x.1 < 0) || decide (x.1 ≥ (n : Int))
def Put (d : Dev) (ws : List (Int × List Int)) : Dev × Int :=
  if d.off then (d, 10) else if ws.any wide then (d, 6) else if ws.any (out d.now.length) then (d, 5) else putAll d ws
def Wt.plain (x : Wt) : Int × List Int := (x.i, x.bs)
theorem getE {α : Type} {l : List α} {i : Nat} (h : i < l.length) : ∃ x, l[i]? = some x ∧ x ∈ l ∧ l.drop i = x :: l.drop (i + 1) := ⟨l[i], List.getElem?_eq_getElem h, List.getElem_mem h, List.drop_eq_getElem_cons h⟩
theorem row2 {w : World} {p : Option Addr} {ws : List Wt} (h : CellsO w p (ws.map Wt.cells).flatten) {i : Nat} {x : Wt} (hi : ws[i]? = some x) : ∃ a, p = some a ∧ CellsAt w (a.add (i * 2)) x.cells :=
  h.row (fun r hr => by obtain ⟨q, _, rfl⟩ := List.mem_map.1 hr; rfl) (by decide) (by rw [List.getElem?_map, hi]; rfl)

/-! ### Is there one such? -/
theorem f25_spec (x : Wt) (w : World) : basin_Basin_Put_1.C x.i x.p x.n x.c w (Ret fun v w' => v = .bool ((x.n : Int) != 64) ∧ Ex w w') := by
  apply basin_Basin_Put_1.ok
  unfold basin_Basin_Put_1.main
  rintro b1 w1 rfl rfl
  have o1 := Owns.new (w := w) x.cells 47
  have x1 := Ex.alloc w (.cells x.cells.toArray 47)
  exact ⟨_, _, _, o1.at (j := 1) rfl, Ret.mk ⟨rfl, x1⟩⟩
theorem f26_spec (x : Wt) {w : World} {B B' pd q : Nat} {d : Dev} {D : Nat → Prop} (h : DevIs w B pd d D) (hq : Owns w B' 23 1 (some ⟨q, 0, none⟩) 1 1 [.pointer (some ⟨pd, 0, none⟩)]) : basin_Basin_Put_2.C x.i x.p x.n x.c q w (Ret fun v w' => v = .bool (out d.now.length (x.i, x.bs)) ∧ Ex w w') := by
  apply basin_Basin_Put_2.ok
  unfold basin_Basin_Put_2.main
  rintro b1 w1 rfl rfl
  have o1 := Owns.new (w := w) x.cells 47
  have x1 := Ex.alloc w (.cells x.cells.toArray 47)
  unfold out
  refine ⟨_, o1.at (j := 0) rfl, cond_of (fun hc k1 => ?_) (fun hc => ?_)⟩
  · rw [hc]
    exact Ret.mk ⟨rfl, x1.trans (Ex.drewN _ _)⟩
  · rw [hc]
    obtain ⟨bs, bn, pl, ml, h, hD⟩ := h.ex x1
    refine ⟨_, o1.at (j := 0) rfl, _, (hq.ex x1).at (j := 0) rfl, ?_⟩
    try dsimp only [dI_i64, dI_u8, dI_u16, dI_u32, dB_bool, dS_slice, dP_ptr, dT_tup, dA_agg, dStr_str, dF_f, dC_c, dM_m, optP_some, ga0, ga1, ga2, ga3, ga4, cond_true, cond_false, chk_true, Bool.not_true, Bool.not_false, Option.isNone_none, Option.isNone_some, List.toList_toArray]
    simp only [addr1]
    refine ⟨_, _, _, h.cell.at (j := 1) rfl, fun k1 => Ret.mk ⟨by rw [Bool.false_or], x1.trans (Ex.drewN _ _)⟩⟩
theorem any_at {α : Type} {P : α → Bool} {l : List α} {i : Nat} {x : α} (hi : l[i]? = some x) (hx : P x = true) : l.any P = true := List.any_eq_true.2 ⟨x, List.mem_of_getElem? hi, hx⟩
theorem any_none {α : Type} {P : α → Bool} {l : List α} (h : ∀ (j : Nat) x, j < l.length → l[j]? = some x → P x = false) : l.any P = false := by
  rw [List.any_eq_false]
  intro x hx
  obtain ⟨j, hj⟩ := List.getElem?_of_mem hx
  have := h j x (List.getElem?_eq_some_iff.1 hj).1 hj
  simp [this]
theorem has25 {w : World} {D : Nat → Prop} {lp : Option Addr} {n c : Nat} {ws : List Wt} (hn : ws.length = n) (hl : CellsO w lp (ws.map Wt.cells).flatten) (hw : ∀ x ∈ ws, WtOk w D x) (hb : n ≤ 1000000000000000) :
    api_Write.C lp n c (.func (.func 27) #[] #[]) w (Ret fun v w' => v = .bool ((ws.map Wt.plain).any wide) ∧ Ex w w') := by
  apply api_Write.ok
  unfold api_Write.main
  have main : api_Write_f27.C lp n c w (Ret fun v w' => ∃ r, v = .int .i64 r ∧ decide (r ≥ 0) = (ws.map Wt.plain).any wide ∧ Ex w w') := by
    apply api_Write_f27.ok
    unfold api_Write_f27.main
    refine ⟨fun t0p t0n t0c t7 t8 w' => lp = t0p ∧ n = t0n ∧ c = t0c ∧ t7 = (n : Int) ∧ 0 ≤ t8 ∧ t8 ≤ (n : Int) ∧ Ex w w' ∧ ∀ (j : Nat) x, j < t8.toNat → (ws.map Wt.plain)[j]? = some x → wide x = false, fun t0p t0n t0c t7 t8 w' => ((n : Int) - t8).toNat, ?_, ?_⟩
    · exact ⟨rfl, rfl, rfl, rfl, by omega, by omega, Ex.refl w, fun j x hj => by simp at hj⟩
    rintro _ _ _ _ t8 w1 ⟨rfl, rfl, rfl, rfl, h0, h1, x1, hno⟩
    unfold api_Write_f27.b1
    refine cond_of (fun hc => ?_) (fun hc => ?_)
    · have hc := of_decide_eq_true hc
      obtain ⟨x, hx, hxm, _⟩ := getE (l := ws) (i := t8.toNat) (by omega)
      obtain ⟨a, rfl, hcell⟩ := row2 (hl.ex x1) hx
      refine chkd_of h0 (chkd_of hc ⟨x.cells.toArray, rfl, hcell, ?_⟩)
      refine callP.use (f25_spec x w1) ?_
      rintro _ w2 ⟨rfl, x2⟩
      try dsimp only [dI_i64, dI_u8, dI_u16, dI_u32, dB_bool, dS_slice, dP_ptr, dT_tup, dA_agg, dStr_str, dF_f, dC_c, dM_m, optP_some, ga0, ga1, ga2, ga3, ga4, cond_true, cond_false, chk_true, Bool.not_true, Bool.not_false, Option.isNone_none, Option.isNone_some, List.toList_toArray]
      have hp : (ws.map Wt.plain)[t8.toNat]? = some x.plain := by rw [List.getElem?_map, hx]; rfl
      have he : ((x.n : Int) != 64) = wide x.plain := by
        unfold wide Wt.plain
        rw [← (hw x hxm).len]
        rw [Bool.eq_iff_iff]
        simp
        omega
      rw [he]
      refine cond_of (fun hy => ?_) (fun hy => ?_)
      · exact Ret.mk ⟨t8, rfl, by rw [any_at hp hy]; simpa using h0, x1.trans x2⟩
      · rw [w64 (by omega) (by omega)]
        refine ⟨⟨rfl, rfl, rfl, rfl, by omega, by omega, x1.trans x2, fun j y hj hjy => ?_⟩, by omega⟩
        by_cases hjt : j < t8.toNat
        · exact hno j y hjt hjy
        · have : j = t8.toNat := by omega
          subst this
          rw [hp] at hjy
          cases hjy
          exact hy
    · have hc := of_decide_eq_false hc
      refine Ret.mk ⟨-1, rfl, ?_, x1⟩
      rw [any_none fun j x hj hx => hno j x (by simp at hj; omega) hx]
      decide
  refine callP.use main ?_
  rintro _ w1 ⟨r, rfl, hr, x1⟩
  try dsimp only [dI_i64, dI_u8, dI_u16, dI_u32, dB_bool, dS_slice, dP_ptr, dT_tup, dA_agg, dStr_str, dF_f, dC_c, dM_m, optP_some, ga0, ga1, ga2, ga3, ga4, cond_true, cond_false, chk_true, Bool.not_true, Bool.not_false, Option.isNone_none, Option.isNone_some, List.toList_toArray]
  rw [hr]
  exact Ret.mk ⟨rfl, x1⟩
theorem has26 {w : World} {B B' pd q : Nat} {d : Dev} {D : Nat → Prop} (h : DevIs w B pd d D) (hq : Owns w B' 23 1 (some ⟨q, 0, none⟩) 1 1 [.pointer (some ⟨pd, 0, none⟩)]) {lp : Option Addr} {n c : Nat} {ws : List Wt} (hn : ws.length = n) (hl : CellsO w lp (ws.map Wt.cells).flatten) (hb : n ≤ 1000000000000000) :
    api_Write.C lp n c (.func (.func 28) #[] #[.pointer (some ⟨q, 0, none⟩)]) w (Ret fun v w' => v = .bool ((ws.map Wt.plain).any (out d.now.length)) ∧ Ex w w') := by
  apply api_Write.ok
  unfold api_Write.main
  have main : api_Write_f28.C lp n c q w (Ret fun v w' => ∃ r, v = .int .i64 r ∧ decide (r ≥ 0) = (ws.map Wt.plain).any (out d.now.length) ∧ Ex w w') := by
    apply api_Write_f28.ok
    unfold api_Write_f28.main
    refine ⟨fun t0p t0n t0c t1 t7 t8 w' => lp = t0p ∧ n = t0n ∧ c = t0c ∧ q = t1 ∧ t7 = (n : Int) ∧ 0 ≤ t8 ∧ t8 ≤ (n : Int) ∧ Ex w w' ∧ ∀ (j : Nat) x, j < t8.toNat → (ws.map Wt.plain)[j]? = some x → out d.now.length x = false, fun t0p t0n t0c t1 t7 t8 w' => ((n : Int) - t8).toNat, ?_, ?_⟩
    · exact ⟨rfl, rfl, rfl, rfl, rfl, by omega, by omega, Ex.refl w, fun j x hj => by simp at hj⟩
    rintro _ _ _ _ _ t8 w1 ⟨rfl, rfl, rfl, rfl, rfl, h0, h1, x1, hno⟩
    unfold api_Write_f28.b1
    refine cond_of (fun hc => ?_) (fun hc => ?_)
    · have hc := of_decide_eq_true hc
      obtain ⟨x, hx, hxm, _⟩ := getE (l := ws) (i := t8.toNat) (by omega)
      obtain ⟨a, rfl, hcell⟩ := row2 (hl.ex x1) hx
      refine chkd_of h0 (chkd_of hc ⟨x.cells.toArray, rfl, hcell, ?_⟩)
      refine callP.use (f26_spec x (h.ex x1) (hq.ex x1)) ?_
      rintro _ w2 ⟨rfl, x2⟩
      try dsimp only [dI_i64, dI_u8, dI_u16, dI_u32, dB_bool, dS_slice, dP_ptr, dT_tup, dA_agg, dStr_str, dF_f, dC_c, dM_m, optP_some, ga0, ga1, ga2, ga3, ga4, cond_true, cond_false, chk_true, Bool.not_true, Bool.not_false, Option.isNone_none, Option.isNone_some, List.toList_toArray]
      have hp : (ws.map Wt.plain)[t8.toNat]? = some x.plain := by rw [List.getElem?_map, hx]; rfl
      refine cond_of (fun hy => ?_) (fun hy => ?_)
      · exact Ret.mk ⟨t8, rfl, by rw [any_at hp hy]; simpa using h0, x1.trans x2⟩
      · rw [w64 (by omega) (by omega)]
        refine ⟨⟨rfl, rfl, rfl, rfl, rfl, by omega, by omega, x1.trans x2, fun j y hj hjy => ?_⟩, by omega⟩
        by_cases hjt : j < t8.toNat
        · exact hno j y hjt hjy
        · have : j = t8.toNat := by omega
          subst this
          rw [hp] at hjy
          cases hjy
          exact hy
    · have hc := of_decide_eq_false hc
      refine Ret.mk ⟨-1, rfl, ?_, x1⟩
      rw [any_none fun j x hj hx => hno j x (by simp at hj; omega) hx]
      decide
  refine callP.use main ?_
  rintro _ w1 ⟨r, rfl, hr, x1⟩
  try dsimp only [dI_i64, dI_u8, dI_u16, dI_u32, dB_bool, dS_slice, dP_ptr, dT_tup, dA_agg, dStr_str, dF_f, dC_c, dM_m, optP_some, ga0, ga1, ga2, ga3, ga4, cond_true, cond_false, chk_true, Bool.not_true, Bool.not_false, Option.isNone_none, Option.isNone_some, List.toList_toArray]
  rw [hr]
  exact Ret.mk ⟨rfl, x1⟩

/-! ### Put -/
theorem put1_good {d : Dev} (h : Good d) {i : Int} {s : List Int} (hi : 0 ≤ i ∧ i < (d.now.length : Int)) (hs : Sec s) : Good (put1 d i s) := by
  refine ⟨?_, ?_, h.sure, ?_, ?_, h.after⟩
  · simp only [put1, List.length_set]; exact h.len
  · simp only [put1, List.length_set]; exact h.few
  · intro t ht
    rcases List.mem_or_eq_of_mem_set ht with ht | rfl
    · exact h.now t ht
    · exact hs
  · intro p hp
    simp only [put1, List.length_set] at hp ⊢
    rcases List.mem_append.1 hp with hp | hp
    · exact h.loose p hp
    · simp only [List.mem_singleton] at hp
      subst hp
      exact ⟨hi.1, hi.2, hs⟩
theorem looseCells_push (l : List (Int × List Int)) (p : Int × List Int) : looseCells l ++ looseRow p = looseCells (l ++ [p]) := by simp [looseCells]
theorem secs_set {l : List (List Int)} {i : Nat} {s : List Int} (h : ∀ s ∈ l, Sec s) (hi : i < l.length) (hs : Sec s) : (secs l).take (i * 64) ++ u8s s ++ (secs l).drop (i * 64 + (u8s s).length) = secs (l.set i s) := by
  unfold secs
  rw [flatten_set _ i (u8s s) (secs_len h) (by simpa using hi) (by rw [u8s_len]; exact hs.1), List.map_set]
theorem row_one (i : Int) (s : List Int) : ∀ y ∈ looseRow (i, s), y.oneCell' = true := by
  intro y hy
  rcases List.mem_cons.1 hy with rfl | hy
  · rfl
  · exact u8s_one s y hy

theorem Put_step {w : World} {B pd b1 : Nat} {d : Dev} {D : Nat → Prop} (h : DevIs w B pd d D) (hg : Good d) (hB : B ≤ w.heap.size) (hq : Owns w 0 23 1 (some ⟨b1, 0, none⟩) 1 1 [.pointer (some ⟨pd, 0, none⟩)]) {lp : Option Addr} {n c : Nat} {ws : List Wt} (hn : ws.length = n) (hl : CellsK w D lp (ws.map Wt.cells).flatten) (hb : n ≤ 1000000000) (hcnt : d.loose.length ≤ 1000000000) {t : Int} (ht : 0 ≤ t ∧ t < (n : Int)) {x : Wt} (hx : ws[t.toNat]? = some x) (hok : WtOk w D x) (hi : 0 ≤ x.i ∧ x.i < (d.now.length : Int)) (hlen : x.bs.length = 64)
    {S : Value → World → Prop} {C1 : Nat → Option Addr → Nat → Nat → Int → Int → World → Prop}
    (hoff : ∀ w', (spend d).off = true → DevIs w' B pd (spend d) D → Kp w w' D → S (.int .i64 10) w')
    (hon : ∀ w' D', (spend d).off = false → DevIs w' B pd (put1 (spend d) x.i x.bs) D' → Kp w w' D → (∀ i, D' i → D i ∨ w.heap.size ≤ i) → C1 b1 lp n c (n : Int) (t + 1) w') :
    basin_Basin_Put.b1 b1 lp n c (n : Int) t w (Ret S) C1 := by
  unfold basin_Basin_Put.b1
  obtain ⟨a, rfl, hcell⟩ := row2 hl.now hx
  refine cond_of (fun _ => ?_) (fun hc => by have := of_decide_eq_false hc; omega)
  refine chkd_of ht.1 (chkd_of ht.2 ⟨x.cells.toArray, rfl, hcell, ?_⟩)
  rintro b4 w8 rfl rfl
  have o8 := Owns.new (w := w) [.int .i64 0, .slice none 0 0] 47
  have x8 := Ex.alloc w (.cells #[.int .i64 0, .slice none 0 0] 47)
  generalize w.alloc (.cells #[.int .i64 0, .slice none 0 0] 47) = w8 at o8 x8 ⊢
  refine chkd_of rfl ?_
  try dsimp only [dI_i64, dI_u8, dI_u16, dI_u32, dB_bool, dS_slice, dP_ptr, dT_tup, dA_agg, dStr_str, dF_f, dC_c, dM_m, optP_some, ga0, ga1, ga2, ga3, ga4, cond_true, cond_false, chk_true, Bool.not_true, Bool.not_false, Option.isNone_none, Option.isNone_some, List.toList_toArray]
  refine o8.put (by rfl) two_one fun w9 k9 o9 => ?_
  have x9 : Ex w w9 := x8.then k9 fun i hi => by rw [hi]; exact Nat.le_refl _
  have h9 := h.ex x9
  have o9 : Owns w9 w.heap.size 47 2 (some ⟨w.heap.size, 0, none⟩) 1 1 [.int .i64 x.i, .slice x.p x.n x.c] := o9
  refine ⟨_, (hq.ex x9).at (j := 0) rfl, ?_⟩
  refine callP.use (spend_spec h9 hg) ?_
  rintro _ w10 ⟨rfl, h10, k10⟩
  try dsimp only [dI_i64, dI_u8, dI_u16, dI_u32, dB_bool, dS_slice, dP_ptr, dT_tup, dA_agg, dStr_str, dF_f, dC_c, dM_m, optP_some, ga0, ga1, ga2, ga3, ga4, cond_true, cond_false, chk_true, Bool.not_true, Bool.not_false, Option.isNone_none, Option.isNone_some, List.toList_toArray]
  have K10 : Kp w w10 D := (x9.kp _).tr k10
  refine cond_of (fun hf => Ret.mk (hoff w10 hf h10 K10)) (fun hf => ?_)
  have hq10 := (off_dev h9 k10 (hq.ex x9) (by decide) (by decide) (by decide)).ex (Ex.drew w10)
  have o10 := (off_dev h9 k10 o9 (by decide) (by decide) (by decide)).ex (Ex.drew w10)
  have K10 : Kp w w10.drew D := K10.tr ((Ex.drew w10).kp _)
  have h10 := h10.ex (Ex.drew w10)
  generalize w10.drew = w10 at hq10 o10 K10 h10 ⊢
  have hsm := spend_same d
  have hg' := spend_good hg
  generalize hd' : spend d = d' at h10 hsm hg' hf hon
  rw [← hsm.2.1] at hi
  rw [← hsm.2.2] at hcnt
  clear hoff
  obtain ⟨bs, bn, pl, ml, h10, hD⟩ := h10
  refine ⟨_, hq10.at (j := 0) rfl, ?_⟩
  try dsimp only [dI_i64, dI_u8, dI_u16, dI_u32, dB_bool, dS_slice, dP_ptr, dT_tup, dA_agg, dStr_str, dF_f, dC_c, dM_m, optP_some, ga0, ga1, ga2, ga3, ga4, cond_true, cond_false, chk_true, Bool.not_true, Bool.not_false, Option.isNone_none, Option.isNone_some, List.toList_toArray]
  simp only [addr1]
  refine ⟨_, _, _, h10.cell.at (j := 1) rfl, _, o10.at (j := 0) rfl, _, _, _, o10.at (j := 1) rfl, ?_⟩
  have hn64 : x.n = 64 := by rw [← hok.len]; exact hlen
  rw [hn64]
  refine chkd_of (by omega) ?_
  have hdata : ∀ w', Kp w w' D → ∃ a3, x.p = some a3 ∧ CellsAt w' a3 (u8s x.bs) := fun w' k => by
    have hc := hok.cells w' k
    obtain ⟨b, hb0, _⟩ := getE (l := x.bs) (i := 0) (by omega)
    obtain ⟨a3, ha3, _⟩ := hc.one (v := .int .u8 b) (by unfold u8s; rw [List.getElem?_map, hb0]; rfl)
    rw [ha3] at hc
    exact ⟨a3, ha3, hc⟩
  obtain ⟨a3, ha3, hc3⟩ := hdata _ K10
  have hxs : Sec x.bs := ⟨hlen, hok.wf⟩
  refine optP_of ha3 ⟨(u8s x.bs).toArray, by simp [u8s_len, hlen], hc3, chkd_of hi.1 (chkd_of hi.2 (chkd_of (by simp [u8s_len, hlen]) ?_))⟩
  have hilt : x.i.toNat < d'.now.length := by omega
  obtain ⟨q1, q2, q3⟩ := h10.no.writes (x.i.toNat * 64) (u8s x.bs) (by rw [u8s_len, hlen]; omega) (u8s_one _)
  refine ⟨q1, fun w12 hw12 => ?_⟩
  have e12 : setO w10 (some ⟨bn, 0, none⟩) (x.i.toNat * 64) (u8s x.bs) = w12 := by
    rw [hw12, add_block, add_off]
    rfl
  rw [e12, secs_set hg'.now hilt hxs] at q2
  rw [e12] at q3
  have q3 : Kp w10 w12 fun i => i = bn := q3.mono fun i _ ⟨x, hx, hi⟩ => by cases hx; exact hi.symm
  clear e12 q1 hw12
  have tbn : ∀ i, i = bn → Typed w10 73 i := fun i hi => hi ▸ (h10.no.typed rfl).1
  have hq12 := (hq10.away q3 73 tbn (by decide)).ex (Ex.drew w12)
  have o12 := (o10.away q3 73 tbn (by decide)).ex (Ex.drew w12)
  have cell12 := (h10.cell.away q3 73 tbn (by decide)).ex (Ex.drew w12)
  have su12 := (h10.su.kp q3 fun y hy hm => by cases hy; exact h10.ne hm).ex (Ex.drew w12)
  have lo12 := (h10.lo.away q3 73 tbn (by decide)).ex (Ex.drew w12)
  have no12 := q2.ex (Ex.drew w12)
  have K12 : Kp w w12.drew D := K10.tr ((q3.mono fun i _ hi => (hD i).2 (.inr (.inr (.inl hi)))).tr ((Ex.drew w12).kp _))
  clear q2 q3 tbn hq10 o10 hc3 K10 ha3
  generalize w12.drew = w12 at hq12 o12 cell12 su12 lo12 no12 K12 ⊢
  refine ⟨_, hq12.at (j := 0) rfl, _, hq12.at (j := 0) rfl, ?_⟩
  try dsimp only [dI_i64, dI_u8, dI_u16, dI_u32, dB_bool, dS_slice, dP_ptr, dT_tup, dA_agg, dStr_str, dF_f, dC_c, dM_m, optP_some, ga0, ga1, ga2, ga3, ga4, cond_true, cond_false, chk_true, Bool.not_true, Bool.not_false, Option.isNone_none, Option.isNone_some, List.toList_toArray]
  simp only [addr1]
  refine ⟨_, _, _, cell12.at (j := 2) rfl, _, o12.at (j := 0) rfl, _, _, _, o12.at (j := 1) rfl, ?_⟩
  rw [hn64]
  refine chkd_of (by omega) ?_
  obtain ⟨a6, ha6, hc6⟩ := hdata _ K12
  refine optP_of ha6 ⟨(u8s x.bs).toArray, by simp [u8s_len, hlen], hc6, optP_of (fill_head 64 _ (u8s x.bs).toArray (.int .i64 x.i) (by rfl) rfl (by simp [u8s_len, hlen])) ?_⟩
  refine optP_of (fill_whole 65 _ _ (by rw [size_madeCells]) (by simp [u8s_len, hlen])) ?_
  rintro b6 w13 rfl rfl
  have x13 := Ex.alloc w12 (.cells (looseRow (x.i, x.bs)).toArray 75)
  have c13 : CellsO (w12.alloc (.cells (looseRow (x.i, x.bs)).toArray 75)) (some ⟨w12.heap.size, 0, none⟩) (looseRow (x.i, x.bs)) := CellsO.alloc _ 75
  have er : (Value.int .i64 x.i :: (u8s x.bs).toArray.toList).toArray = (looseRow (x.i, x.bs)).toArray := rfl
  rw [er]
  generalize w12.alloc (.cells (looseRow (x.i, x.bs)).toArray 75) = w13 at x13 c13 ⊢
  have cell13 := cell12.ex x13
  have hq13 := hq12.ex x13
  have lo13 := lo12.ex x13
  have hB12 : B ≤ w12.heap.size := Nat.le_trans hB K12.size
  refine ⟨cell13.at (j := 2) rfl, hq13.at (j := 0) rfl, hq13.at (j := 0) rfl, ?_⟩
  refine appP_own2 lo13 (Nat.le_trans hB12 x13.size) (looseRow (x.i, x.bs)) c13 (by simp [looseRow, u8s_len, hlen]) (row_one _ _) (by rfl) (by omega) (by omega) (fun p3 c3 w14 o14 k14 hp3 => ?_)
  have t68 : ∀ i, (∃ y, pl = some y ∧ y.block = i) → Typed w13 75 i := fun i ⟨y, hy, hi⟩ => hi ▸ (lo13.typed hy).1
  have cell14 := cell13.away k14 75 t68 (by decide)
  have hq14 := hq13.away k14 75 t68 (by decide)
  have su14 := (su12.ex x13).away k14 75 t68 (by decide)
  have no14 := (no12.ex x13).away k14 75 t68 (by decide)
  have K14 : Kp w w14 D := (K12.tr (x13.kp _)).tr (k14.mono fun i _ hi => (hD i).2 (.inr (.inr (.inr hi))))
  refine ⟨hq14.at (j := 0) rfl, ?_⟩
  refine cell14.put1 (j := 2) (by show 2 < 1 * 5; omega) rfl fun w15 k15 cell15 => ?_
  have t62 : ∀ i, i = pd → Typed w14 67 i := fun i hi => hi ▸ (cell14.typed rfl).1
  have K15 : Kp w w15 D := K14.tr (k15.mono fun i _ hi => (hD i).2 (.inl hi))
  rw [w64 (by omega) (by omega)]
  rw [looseCells_push] at o14
  have hdlen : (put1 d' x.i x.bs).now.length = d'.now.length := by simp [put1]
  have hllen : (put1 d' x.i x.bs).loose.length = d'.loose.length + 1 := by simp [put1]
  refine hon w15 (Its pd bs bn p3) hf ⟨bs, bn, p3, c3, ⟨?_, ?_, ?_, ?_, h10.ne⟩, fun i => Iff.rfl⟩ K15 fun i hi => ?_
  · rw [hdlen, hllen]
    exact cell15
  · rw [hdlen]
    exact su14.away k15 67 t62 (by decide)
  · rw [hdlen]
    exact no14.away k15 67 t62 (by decide)
  · rw [hllen]
    exact o14.away k15 67 t62 (by decide)
  · rcases hi with hi | hi | hi | ⟨y, hy, hi⟩
    · exact .inl ((hD i).2 (.inl hi))
    · exact .inl ((hD i).2 (.inr (.inl hi)))
    · exact .inl ((hD i).2 (.inr (.inr (.inl hi))))
    · rcases hp3 with hp3 | hp3
      · rw [hp3] at hy
        exact .inl ((hD i).2 (.inr (.inr (.inr ⟨y, hy, hi⟩))))
      · have := hp3 y hy
        have := K12.size
        have := x13.size
        exact .inr (by omega)

theorem WtOk.step {w w1 : World} {D D1 : Nat → Prop} {x : Wt} (h : WtOk w D x) (k : Kp w w1 D) (hD : ∀ i, i < w.heap.size → D1 i → D i) : WtOk w1 D1 x := ⟨h.cells.step k hD, h.len, h.wf⟩
theorem any_false {α : Type} {P : α → Bool} {l : List α} (h : l.any P = false) {x : α} (hx : x ∈ l) : P x = false := by
  rw [List.any_eq_false] at h
  have := h x hx
  simpa using this

/-- behind a call that may change the device -/
def After (w : World) (B pd : Nat) (d : Dev) (D : Nat → Prop) (w' : World) : Prop := ∃ D', DevIs w' B pd d D' ∧ Good d ∧ Kp w w' D ∧ ∀ i, D' i → D i ∨ w.heap.size ≤ i

theorem Put_spec {w : World} {B pd : Nat} {d : Dev} {D : Nat → Prop} (h : DevIs w B pd d D) (hg : Good d) (hB : B ≤ w.heap.size) {lp : Option Addr} {n c : Nat} {ws : List Wt} (hn : ws.length = n) (hl : CellsK w D lp (ws.map Wt.cells).flatten) (hw : ∀ x ∈ ws, WtOk w D x) (hb : n ≤ 100000000) (hcnt : d.loose.length + n ≤ 1000000000) :
    basin_Basin_Put.C (some ⟨pd, 0, none⟩) lp n c w (Ret fun v w' => v = .int .i64 (Put d (ws.map Wt.plain)).2 ∧ After w B pd (Put d (ws.map Wt.plain)).1 D w') := by
  apply basin_Basin_Put.ok
  unfold basin_Basin_Put.main
  rintro b1 w1 rfl rfl
  have o1 := (Owns.new (w := w) [.pointer (some ⟨pd, 0, none⟩)] 23).lower (Nat.zero_le _)
  have x1 := Ex.alloc w (.cells #[.pointer (some ⟨pd, 0, none⟩)] 23)
  generalize w.alloc (.cells #[.pointer (some ⟨pd, 0, none⟩)] 23) = w1 at o1 x1 ⊢
  have same : ∀ w', Ex w w' → After w B pd d D w' := fun w' x => ⟨D, h.ex x, hg, x.kp _, fun i hi => .inl hi⟩
  refine ⟨_, o1.at (j := 0) rfl, ?_⟩
  refine callP.use (ready_spec (h.ex x1)) ?_
  rintro _ w2 ⟨rfl, rfl⟩
  try dsimp only [dI_i64, dI_u8, dI_u16, dI_u32, dB_bool, dS_slice, dP_ptr, dT_tup, dA_agg, dStr_str, dF_f, dC_c, dM_m, optP_some, ga0, ga1, ga2, ga3, ga4, cond_true, cond_false, chk_true, Bool.not_true, Bool.not_false, Option.isNone_none, Option.isNone_some, List.toList_toArray]
  unfold Put
  cases hoff : d.off with
  | true =>
    simp only [if_true]
    rw [cond_pos (by decide)]
    exact Ret.mk ⟨rfl, same _ x1⟩
  | false =>
    simp only [Bool.false_eq_true, if_false]
    rw [cond_neg (by decide)]
    refine callP.use (has25 (D := D) hn (hl.now.ex x1) (fun x hx => (hw x hx).step (x1.kp _) fun i _ hi => hi) (by omega)) ?_
    rintro _ w4 ⟨rfl, x4⟩
    try dsimp only [dI_i64, dI_u8, dI_u16, dI_u32, dB_bool, dS_slice, dP_ptr, dT_tup, dA_agg, dStr_str, dF_f, dC_c, dM_m, optP_some, ga0, ga1, ga2, ga3, ga4, cond_true, cond_false, chk_true, Bool.not_true, Bool.not_false, Option.isNone_none, Option.isNone_some, List.toList_toArray]
    refine cond_of (fun hc => ?_) (fun hc => ?_)
    · rw [hc]
      exact Ret.mk ⟨rfl, same _ (x1.trans x4)⟩
    rw [hc]
    simp only [Bool.false_eq_true, if_false]
    have x14 := x1.trans x4
    refine callP.use (has26 (h.ex x14) (o1.ex x4) hn (hl.now.ex x14) (by omega)) ?_
    rintro _ w6 ⟨rfl, x6⟩
    try dsimp only [dI_i64, dI_u8, dI_u16, dI_u32, dB_bool, dS_slice, dP_ptr, dT_tup, dA_agg, dStr_str, dF_f, dC_c, dM_m, optP_some, ga0, ga1, ga2, ga3, ga4, cond_true, cond_false, chk_true, Bool.not_true, Bool.not_false, Option.isNone_none, Option.isNone_some, List.toList_toArray]
    refine cond_of (fun hc2 => ?_) (fun hc2 => ?_)
    · rw [hc2]
      exact Ret.mk ⟨rfl, same _ (x14.trans x6)⟩
    rw [hc2]
    simp only [Bool.false_eq_true, if_false]
    have x16 := x14.trans x6
    refine ⟨fun t2 t18p t18n t18c t19 t20 w' => t2 = w.heap.size ∧ lp = t18p ∧ n = t18n ∧ c = t18c ∧ t19 = (n : Int) ∧ 0 ≤ t20 ∧ t20 ≤ (n : Int) ∧ ∃ d' D', DevIs w' B pd d' D' ∧ Good d' ∧ Kp w w' D ∧ (∀ i, D' i → D i ∨ w.heap.size ≤ i) ∧ Owns w' 0 23 1 (some ⟨w.heap.size, 0, none⟩) 1 1 [.pointer (some ⟨pd, 0, none⟩)] ∧
      putAll d' ((ws.map Wt.plain).drop t20.toNat) = putAll d (ws.map Wt.plain) ∧ (d'.loose.length : Int) ≤ (d.loose.length : Int) + t20 ∧ d'.now.length = d.now.length, fun t2 t18p t18n t18c t19 t20 w' => ((n : Int) - t20).toNat, ?_, ?_⟩
    · exact ⟨rfl, rfl, rfl, rfl, rfl, by omega, by omega, d, D, h.ex x16, hg, x16.kp _, fun i hi => .inl hi, (o1.ex x4).ex x6, rfl, by omega, rfl⟩
    rintro _ _ _ _ _ t w7 ⟨rfl, rfl, rfl, rfl, rfl, h0, h1, d', D', h7, hg7, K7, hD7, o7, hput, hcl, hnl⟩
    by_cases hc3 : t < (n : Int)
    · obtain ⟨x, hx, hxm, hdrop⟩ := getE (l := ws) (i := t.toNat) (by omega)
      have hpm : x.plain ∈ ws.map Wt.plain := List.mem_map.2 ⟨x, hxm, rfl⟩
      have hwide : x.bs.length = 64 := by
        have := any_false hc hpm
        simpa [wide, Wt.plain] using this
      have hrange : 0 ≤ x.i ∧ x.i < (d'.now.length : Int) := by
        have := any_false hc2 hpm
        unfold out Wt.plain at this
        rw [Bool.or_eq_false_iff, decide_eq_false_iff_not, decide_eq_false_iff_not] at this
        obtain ⟨r1, r2⟩ := this
        dsimp only at r1 r2
        rw [hnl]
        omega
      have hstep : ∀ i, i < w.heap.size → D' i → D i := fun i hi hd => by
        rcases hD7 i hd with hd | hd
        · exact hd
        · omega
      rw [← List.map_drop, hdrop, List.map_cons] at hput
      have hB7 : B ≤ w7.heap.size := Nat.le_trans hB K7.size
      refine Put_step (S := fun v w' => v = .int .i64 (putAll d (ws.map Wt.plain)).2 ∧ After w B pd (putAll d (ws.map Wt.plain)).1 D w') h7 hg7 hB7 o7 hn (hl.step K7 hstep) (by omega) (by omega) ⟨h0, hc3⟩ hx ((hw x hxm).step K7 hstep) hrange hwide (fun w' hf hd' k' => ?_) (fun w' D2 hf hd' k' hD2 => ?_)
      · rw [← hput]
        unfold putAll
        rw [if_pos hf]
        exact ⟨rfl, D', hd', spend_good hg7, Kp.trans K7 k' (fun _ _ h => h) hstep, hD7⟩
      · have hs := spend_same d'
        refine ⟨⟨rfl, rfl, rfl, rfl, rfl, by omega, by omega, _, D2, hd', put1_good (spend_good hg7) (by rw [hs.2.1]; exact hrange) ⟨hwide, (hw x hxm).wf⟩, Kp.trans K7 k' (fun _ _ h => h) hstep, fun i hi => ?_, off_dev h7 k' o7 (by decide) (by decide) (by decide), ?_, ?_, ?_⟩, by ((try dsimp only); omega)⟩
        · rcases hD2 i hi with hi | hi
          · exact hD7 i hi
          · exact .inr (Nat.le_trans K7.size hi)
        · rw [← hput, show (t + 1).toNat = t.toNat + 1 by omega, ← List.map_drop]
          conv => rhs; unfold putAll
          rw [if_neg (by rw [hf]; decide)]
          rfl
        · simp only [put1, hs.2.2, List.length_append, List.length_cons, List.length_nil]
          omega
        · simp only [put1, hs.2.1, List.length_set]
          exact hnl
    · unfold basin_Basin_Put.b1
      rw [condd_neg hc3]
      rw [List.drop_eq_nil_of_le (by rw [List.length_map]; omega)] at hput
      rw [← hput]
      exact Ret.mk ⟨rfl, D', h7, hg7, K7, hD7⟩
/-! ### Flush -/
/-! ### Crash -/

/-! ### Flush -/
def flush (d : Dev) : Dev × Int := if d.off then (d, 10) else if (spend d).off then (spend d, 10) else ({ spend d with sure := d.now, loose := [] }, 0)
theorem Flush_spec {w : World} {B pd : Nat} {d : Dev} {D : Nat → Prop} (h : DevIs w B pd d D) (hg : Good d) : basin_Basin_Flush.C (some ⟨pd, 0, none⟩) w (Ret fun v w' => v = .int .i64 (flush d).2 ∧ After w B pd (flush d).1 D w') := by
  apply basin_Basin_Flush.ok
  unfold basin_Basin_Flush.main
  refine callP.use (ready_spec h) ?_
  rintro _ w1 ⟨rfl, rfl⟩
  try dsimp only [dI_i64, dI_u8, dI_u16, dI_u32, dB_bool, dS_slice, dP_ptr, dT_tup, dA_agg, dStr_str, dF_f, dC_c, dM_m, optP_some, ga0, ga1, ga2, ga3, ga4, cond_true, cond_false, chk_true, Bool.not_true, Bool.not_false, Option.isNone_none, Option.isNone_some, List.toList_toArray]
  unfold flush
  cases hoff : d.off with
  | true =>
    simp only [if_true]
    rw [cond_pos (by decide)]
    exact Ret.mk ⟨rfl, D, h, hg, Kp.refl _ _, fun i hi => .inl hi⟩
  | false =>
    simp only [Bool.false_eq_true, if_false]
    rw [cond_neg (by decide)]
    refine callP.use (spend_spec h hg) ?_
    rintro _ w3 ⟨rfl, h3, k3⟩
    try dsimp only [dI_i64, dI_u8, dI_u16, dI_u32, dB_bool, dS_slice, dP_ptr, dT_tup, dA_agg, dStr_str, dF_f, dC_c, dM_m, optP_some, ga0, ga1, ga2, ga3, ga4, cond_true, cond_false, chk_true, Bool.not_true, Bool.not_false, Option.isNone_none, Option.isNone_some, List.toList_toArray]
    have hg' := spend_good hg
    have hs := spend_same d
    refine cond_of (fun hf => ?_) (fun hf => ?_)
    · rw [if_pos hf]
      exact Ret.mk ⟨rfl, D, h3, hg', k3, fun i hi => .inl hi⟩
    rw [if_neg (by rw [hf]; decide)]
    obtain ⟨bs, bn, pl, ml, h3, hD⟩ := h3.ex (Ex.drew w3)
    have k3 := k3.tr ((Ex.drew w3).kp _)
    generalize w3.drew = w3 at h3 k3 ⊢
    simp only [addr1]
    refine ⟨_, _, _, h3.cell.at (j := 0) rfl, _, _, _, h3.cell.at (j := 1) rfl, ?_⟩
    refine copyP_ownS h3.su h3.no.cells (secs_size hg'.now) (Nat.le_refl _) (secs_one _) (fun w5 o5 k5 => ?_)
    have hlen : (secs (spend d).sure).drop ((spend d).now.length * 64) = [] := List.drop_eq_nil_of_le (by rw [secs_size hg'.sure, hg'.len]; exact Nat.le_refl _)
    rw [hlen, List.append_nil] at o5
    have k5 : Kp w3 w5 fun i => i = bs := k5.mono fun i _ ⟨x, hx, hi⟩ => by cases hx; exact hi.symm
    have tbs : ∀ i, i = bs → Typed w3 73 i := fun i hi => hi ▸ (h3.su.typed rfl).1
    have c5 := h3.cell.away k5 73 tbs (by decide)
    have n5 := h3.no.kp k5 fun x hx hm => by cases hx; exact h3.ne hm.symm
    refine c5.put1 (j := 2) (by show 2 < 1 * 5; omega) rfl fun w6 k6 c6 => ?_
    have t62 : ∀ i, i = pd → Typed w5 67 i := fun i hi => hi ▸ (c5.typed rfl).1
    refine Ret.mk ⟨rfl, Its pd bs bn none, ⟨bs, bn, none, 0, ⟨c6, ?_, ?_, Owns.nil _ _ _ _, h3.ne⟩, fun i => Iff.rfl⟩, ?_, (k3.tr (k5.mono fun i _ hi => (hD i).2 (.inr (.inl hi)))).tr (k6.mono fun i _ hi => (hD i).2 (.inl hi)), fun i hi => .inl ?_⟩
    · have := o5.away k6 67 t62 (by decide)
      rw [hs.2.1] at this ⊢
      exact this
    · exact n5.away k6 67 t62 (by decide)
    · exact ⟨by rw [hs.2.1], hg'.few, by rw [← hs.2.1]; exact hg'.now, hg'.now, fun p hp => (by cases hp), hg'.after⟩
    · rcases hi with hi | hi | hi | ⟨x, hx, _⟩
      · exact (hD i).2 (.inl hi)
      · exact (hD i).2 (.inr (.inl hi))
      · exact (hD i).2 (.inr (.inr (.inl hi)))
      · cases hx
/-! ### Crash -/

def rep (x : Int) : List Int := List.replicate 64 x
theorem rep_sec {x : Int} (h : 0 ≤ x ∧ x < 256) : Sec (rep x) := ⟨by simp [rep], fun y hy => by rw [List.eq_of_mem_replicate hy]; exact h⟩
theorem After.size {w w' : World} {B pd : Nat} {d : Dev} {D : Nat → Prop} (h : After w B pd d D w') : w.heap.size ≤ w'.heap.size := by
  obtain ⟨_, _, _, k, _⟩ := h
  exact k.size

/-- a write that stands in a variable -/
theorem PutOne {w : World} {B pd : Nat} {d : Dev} {D : Nat → Prop} (h : DevIs w B pd d D) (hg : Good d) (hB : B ≤ w.heap.size) {b B1 B2 : Nat} {i : Int} {p : Option Addr} {c : Nat} {s : List Int} (o : Owns w B1 47 2 (some ⟨b, 0, none⟩) 1 1 [.int .i64 i, .slice p 64 c]) (o5 : Owns w B2 5 1 p 64 c (u8s s)) (hs : Sec s) (hcnt : d.loose.length ≤ 100000000) :
    basin_Basin_Put.C (some ⟨pd, 0, none⟩) (some ⟨b, 0, none⟩) 1 1 w (Ret fun v w' => v = .int .i64 (Put d [(i, s)]).2 ∧ After w B pd (Put d [(i, s)]).1 D w') :=
  Put_spec h hg hB (ws := [⟨i, s, p, 64, c⟩]) rfl (CellsK.of_own h o (by decide) (by decide) (by decide)) (fun x hx => by
    simp only [List.mem_singleton] at hx
    subst hx
    exact ⟨CellsK.of_own h o5 (by decide) (by decide) (by decide), hs.1, hs.2⟩) (by omega) (by omega)
theorem put_live {d : Dev} (h1 : d.after = -1) (h2 : d.off = false) {i : Int} {s : List Int} (hi : 0 ≤ i ∧ i < (d.now.length : Int)) (hs : s.length = 64) : Put d [(i, s)] = (put1 d i s, 0) := by
  have hsp : spend d = d := by unfold spend; rw [if_neg (by omega), if_neg (by omega)]
  unfold Put
  rw [if_neg (by rw [h2]; decide), if_neg (by simp [wide, hs]), if_neg (by simp [out]; omega)]
  unfold putAll
  rw [hsp, if_neg (by rw [h2]; decide)]
  rfl
theorem flush_live {d : Dev} (h1 : d.after = -1) (h2 : d.off = false) : flush d = ({ d with sure := d.now, loose := [] }, 0) := by
  have hsp : spend d = d := by unfold spend; rw [if_neg (by omega), if_neg (by omega)]
  unfold flush
  rw [hsp, if_neg (by rw [h2]; decide), if_neg (by rw [h2]; decide)]

/-! ### BasinFails -/
end Go.Proofs.Ythgmebhkbbehmaa.G.Bas
